/- Joined: super: Write. super: Key. Two arrays of four bytes, compared. super: Read. super's laws: the little functions of the chapter. -/
import Derived.Test.YtcbnebcooiagmaaJy16
import Derived.Test.YtcbnebcooiagmaaJy8
import Derived.Test.YtcbnebcooiagmaaJy9
import Derived.ChangeKeysEq
namespace Go.Proofs.Ytcbnebcooiagmaa
open Go.RowKit
def supWE (st : Dk) (b : Blk) : Int := if supE b ≠ 0 then supE b else if fitB st b = false then 1 else if st.off = true then 8 else if st.armed = 1 then 8 else 0
def supWS (st : Dk) (b : Blk) : Dk := if supE b ≠ 0 then st else if fitB st b = false then st else if st.off = true then st else if st.armed = 1 then cutS (flushS st) st.keep else flushS (putS (flushS st) (b.ep % 2) (supV b))
theorem chk_c0 {b : Blk} (h : b.chk = true) : 6 ≤ b.c0 := by
  obtain ⟨h0, h1, h2, h3, h4, h5, _⟩ := of_chk h
  unfold segN at h5
  split at h5
  · omega
  · omega
/-- The sector of a block that fits is written to. -/
theorem sup_fit {st : Dk} {b : Blk} (hE : supE b = 0) (hf : fitB st b = true) (ho : st.off = false) : wrE (flushS st) (b.ep % 2) (supV b) = (if st.armed = 1 then 8 else 0) ∧ wrS (flushS st) (b.ep % 2) (supV b) = (if st.armed = 1 then cutS (flushS st) st.keep else putS (flushS st) (b.ep % 2) (supV b)) := by
  have hl := supV_len hE
  have hc := chk_c0 (supE_ok hE).2.1
  unfold fitB at hf
  rw [Bool.and_eq_true] at hf
  have h1 : (st.kept.length : Int) = b.c0 := of_decide_eq_true hf.1
  have h2 : (st.size : Int) = b.c1 := of_decide_eq_true hf.2
  have hk : (flushS st).kept.length = st.kept.length := settleK_len _ _ _ _
  have hw : fitW (flushS st) (b.ep % 2) (supV b) = true := by
    unfold fitW
    rw [hk]
    have e1 : decide (0 ≤ b.ep % 2) = true := decide_eq_true (by omega)
    have e2 : decide (b.ep % 2 < (st.kept.length : Int)) = true := decide_eq_true (by omega)
    have e3 : decide ((supV b).length = (flushS st).size) = true := decide_eq_true (by show _ = st.size; omega)
    rw [e1, e2, e3]
    rfl
  have hoo : (flushS st).off = false := ho
  unfold wrE wrS
  rw [hoo, hw]
  exact ⟨rfl, rfl⟩
set_option linter.unusedSimpArgs false in
set_option linter.unusedVariables false in
set_option maxRecDepth 100000 in
set_option maxHeartbeats 8000000 in
theorem supwrite_any (Z : Nat → Prop) (d : Nat) (st : Dk) (b : Blk) (w : World) (hD : DkIn w Z d st) (hw : b.Wf) (hwr : st.writes + 1 ≤ 4611686018427387904) :
    Calls Try.prog 21 #[.pointer (some ⟨d, 0, none⟩), b.val] w fun e w' => e = .returned (.int .i64 (supWE st b)) ∧ ∃ Z', DkIn w' Z' d (supWS st b) ∧ Tnd Z Z' w w' := by
  have HFIT : Hid (supE b = 0 → fitB st b = true → st.off = false → wrE (flushS st) (b.ep % 2) (supV b) = (if st.armed = 1 then 8 else 0) ∧ wrS (flushS st) (b.ep % 2) (supV b) = (if st.armed = 1 then cutS (flushS st) st.keep else putS (flushS st) (b.ep % 2) (supV b))) := fun h1 h2 h3 => sup_fit h1 h2 h3
  have HW := Lib.hid hw
  have hep := hw.ep
  obtain ⟨WE, hWE⟩ : ∃ x, supWE st b = x := ⟨_, rfl⟩
  obtain ⟨WS, hWS⟩ : ∃ x, supWS st b = x := ⟨_, rfl⟩
  rw [hWE, hWS]
  obtain ⟨E1, hE1⟩ : ∃ x, supE b = x := ⟨_, rfl⟩
  obtain ⟨V, hV⟩ : ∃ x, supV b = x := ⟨_, rfl⟩
  obtain ⟨FB, hFB⟩ : ∃ x, fitB st b = x := ⟨_, rfl⟩
  unfold supWE at hWE
  unfold supWS at hWS
  rw [hE1, hFB] at hWE hWS
  rw [hV] at hWS
  have HWE := Lib.hid hWE
  have HWS := Lib.hid hWS
  have HE1 := Lib.hid hE1
  have HV := Lib.hid hV
  have HFB := Lib.hid hFB
  have hVL : E1 = 0 → 64 ≤ V.length ∧ V.length ≤ 4096 := fun h => by rw [← hV]; exact (supV_len (by rw [hE1, h])).2
  have HVL := Lib.hid hVL
  clear hw hWE hWS hE1 hV hFB hVL
  have HENC : Hid (∀ w1, Calls Try.prog 9 #[b.val] w1 fun e w' => ∃ v, e = .returned (.tuple #[v, .int .i64 E1]) ∧ Owns .u8 5 w' w1.heap.size v V ∧ Below w1.heap.size w1 w') := fun w1 => by
    have := supenc_any b w1 HW.out
    unfold GivesSec at this
    rw [HE1.out, HV.out] at this
    exact this
  have HFITS : Hid (∀ w1, DkIn w1 Z d st → Calls Try.prog 61 #[.pointer (some ⟨d, 0, none⟩), .agg #[.int .i64 b.c0, .int .i64 b.c1, .int .i64 b.c2, .int .i64 b.c3, .int .i64 b.c4, .int .i64 b.c5, .int .i64 b.c6, .int .i64 b.c7, .int .i64 b.c8]] w1 fun e w' => e = .returned (.bool FB) ∧ Below w1.heap.size w1 w') := fun w1 h => by
    have := fits_any Z d st b w1 h
    rw [HFB.out] at this
    exact this
  have hzl := hD.1
  have HD := Lib.hid hD
  clear hD
  obtain ⟨ep, f0, f1, f2, f3, f4, f5, f6, f7, f8, rs, rn, sq⟩ := b
  replace hep : 0 ≤ ep ∧ ep ≤ 18446744073709551615 := hep
  have HSL : Hid (∀ w1, Calls Try.prog 16 #[.int .u64 ep] w1 fun e w' => e = .returned (.int .i64 (ep % 2)) ∧ w1 = w') := fun w1 => slot_any ep w1 hep
  replace HENC : Hid (∀ w1, Calls Try.prog 9 #[.agg #[.int .u64 ep, .int .i64 f0, .int .i64 f1, .int .i64 f2, .int .i64 f3, .int .i64 f4, .int .i64 f5, .int .i64 f6, .int .i64 f7, .int .i64 f8, .int .i64 rs, .int .i64 rn, .int .u64 sq]] w1 fun e w' => ∃ v, e = .returned (.tuple #[v, .int .i64 E1]) ∧ Owns .u8 5 w' w1.heap.size v V ∧ Below w1.heap.size w1 w') := HENC
  replace HFITS : Hid (∀ w1, DkIn w1 Z d st → Calls Try.prog 61 #[.pointer (some ⟨d, 0, none⟩), .agg #[.int .i64 f0, .int .i64 f1, .int .i64 f2, .int .i64 f3, .int .i64 f4, .int .i64 f5, .int .i64 f6, .int .i64 f7, .int .i64 f8]] w1 fun e w' => e = .returned (.bool FB) ∧ Below w1.heap.size w1 w') := HFITS
  show Calls _ _ #[_, .agg #[.int .u64 ep, .int .i64 f0, .int .i64 f1, .int .i64 f2, .int .i64 f3, .int .i64 f4, .int .i64 f5, .int .i64 f6, .int .i64 f7, .int .i64 f8, .int .i64 rs, .int .i64 rn, .int .u64 sq]] _ _
  have hba : Below w.heap.size w (w.alloc (.cells #[.int .u64 ep, .int .i64 f0, .int .i64 f1, .int .i64 f2, .int .i64 f3, .int .i64 f4, .int .i64 f5, .int .i64 f6, .int .i64 f7, .int .i64 f8, .int .i64 rs, .int .i64 rn, .int .u64 sq] 28)) := (Below.refl _ _).alloc (Nat.le_refl _) _
  have hrow := heap_alloc_new w (.cells #[.int .u64 ep, .int .i64 f0, .int .i64 f1, .int .i64 f2, .int .i64 f3, .int .i64 f4, .int .i64 f5, .int .i64 f6, .int .i64 f7, .int .i64 f8, .int .i64 rs, .int .i64 rn, .int .u64 sq] 28)
  have HDa := Lib.hid (HD.out.below hba)
  have hta := below_tnd hba Z
  obtain ⟨hb, hhb⟩ : ∃ hb, w.heap.size = hb := ⟨_, rfl⟩
  obtain ⟨wa, hwa⟩ : ∃ wa, w.alloc (.cells #[.int .u64 ep, .int .i64 f0, .int .i64 f1, .int .i64 f2, .int .i64 f3, .int .i64 f4, .int .i64 f5, .int .i64 f6, .int .i64 f7, .int .i64 f8, .int .i64 rs, .int .i64 rn, .int .u64 sq] 28) = wa := ⟨_, rfl⟩
  rw [hwa, hhb] at hrow
  rw [hwa] at HDa hta
  rw [hhb] at hzl
  have HTA := Lib.hid hta
  have HROW := Lib.hid hrow
  have HHB := Lib.hid hhb
  have HWA := Lib.hid hwa
  have HZ := Lib.hid hzl
  have hlt : hb < wa.heap.size := (Array.getElem?_eq_some_iff.1 hrow).1
  clear hrow hhb hwa hta hzl
  go_enter Try.func21, Try.ntmps21
  go_wp2_with fail
  rw [HWA.out, HHB.out]
  refine (HENC.out wa).mono ?_
  rintro e w1 ⟨v1, rfl, ho1, hb1⟩
  obtain ⟨n1, hn1⟩ : ∃ n1, V.length = n1 := ⟨_, rfl⟩
  obtain ⟨a1, c1, rfl⟩ := ho1.shapeN n1 hn1
  have D1 := Lib.hid (HDa.out.below hb1)
  have T1 := Lib.hid (HTA.out.trans (below_tnd hb1 Z))
  have ROW1 := Lib.hid (row_keep HROW.out hb1)
  have O1 := Lib.hid ho1
  have HN1 := Lib.hid hn1
  clear ho1 hb1 hn1
  by_cases h1 : E1 = 0
  rotate_left
  · have d1 : (E1 != 0) = true := by simpa using h1
    have hA : WE = E1 := by rw [← HWE.out, if_pos h1]
    have hB : WS = st := by rw [← HWS.out, if_pos h1]
    subst hA hB
    clear h1
    go_wp2_with fail
    go_ret
    exact ⟨rfl, Z, D1.out, T1.out⟩
  subst h1
  obtain ⟨z0, z1, z2, z3, z4, z5, z6, z7, z8, z9, z10, z11, z12⟩ := cells13 ROW1.out
  go_wp2_with fail
  refine (HFITS.out w1 D1.out).mono ?_
  rintro e w2 ⟨rfl, hb2⟩
  have D2 := Lib.hid (D1.out.below hb2)
  have T2 := Lib.hid (T1.out.trans (below_tnd hb2 Z))
  have ROW2 := Lib.hid (row_keep ROW1.out hb2)
  have O2 := Lib.hid (O1.out.below hb2)
  clear hb2 z0 z1 z2 z3 z4 z5 z6 z7 z8 z9 z10 z11 z12
  cases FB with
  | false =>
    have hA : WE = 1 := by rw [← HWE.out]; rfl
    have hB : WS = st := by rw [← HWS.out]; rfl
    subst hA hB
    go_wp2_with fail
    go_ret
    exact ⟨rfl, Z, D2.out, T2.out⟩
  | true =>
    obtain ⟨z0, z1, z2, z3, z4, z5, z6, z7, z8, z9, z10, z11, z12⟩ := cells13 ROW2.out
    go_wp2_with fail
    refine (flush_any Z d st w2 D2.out).mono ?_
    rintro e w3 ⟨rfl, hd3, ht3⟩
    clear z0 z1 z2 z3 z4 z5 z6 z7 z8 z9 z10 z11 z12
    have T3 := Lib.hid (T2.out.trans ht3)
    have ROW3 := Lib.hid (row_tnd ROW2.out ht3 (fun hz => by have := HZ.out hb hz; omega))
    have O3 := Lib.hid (rd_tnd O2.out.rd ht3 (fun q hq hn hz => by have h2 := owns_ge (q := q) (by rw [← hq]; exact O2.out) hn; have h3 := HZ.out _ hz; omega))
    clear ht3
    cases ho : st.off with
    | true =>
      have hA : WE = 8 := by rw [← HWE.out, ho]; rfl
      have hB : WS = st := by rw [← HWS.out, ho]; rfl
      rw [ho] at hd3
      have D3 := Lib.hid hd3
      subst hA hB
      clear ho hd3
      go_wp2_with fail
      go_ret
      exact ⟨rfl, Z, D3.out, T3.out⟩
    | false =>
      obtain ⟨hf1, hf2⟩ := HFIT.out HE1.out HFB.out ho
      rw [HV.out] at hf1 hf2
      replace hf1 : wrE (flushS st) (ep % 2) V = if st.armed = 1 then 8 else 0 := hf1
      replace hf2 : wrS (flushS st) (ep % 2) V = if st.armed = 1 then cutS (flushS st) st.keep else putS (flushS st) (ep % 2) V := hf2
      rw [ho] at hd3
      replace hd3 : DkIn w3 Z d (flushS st) := hd3
      have D3 := Lib.hid hd3
      have HF1 := Lib.hid hf1
      have HF2 := Lib.hid hf2
      have HO := Lib.hid ho
      clear hd3 hf1 hf2 ho
      obtain ⟨z0, z1, z2, z3, z4, z5, z6, z7, z8, z9, z10, z11, z12⟩ := cells13 ROW3.out
      go_wp2_with (go_at_call 16; refine (HSL.out _).mono ?_; rintro e w' ⟨rfl, rfl⟩)
      refine (write_any Z d (flushS st) (ep % 2) a1 n1 c1 V w3 D3.out O3.out (fun q hq hz => by have h2 := owns_ge (q := q) (by rw [← hq]; exact O1.out) (by have := HVL.out trivial; rw [HN1.out] at this; omega); have h3 := HZ.out _ hz; omega) (by omega) (by omega) (by show (0 : Nat) + 1 ≤ _; omega) hwr).mono ?_
      rintro e w4 ⟨rfl, Z', hd4, ht4⟩
      rw [HF1.out]
      rw [HF2.out] at hd4
      have T4 := Lib.hid (T3.out.trans ht4)
      clear ht4 z0 z1 z2 z3 z4 z5 z6 z7 z8 z9 z10 z11 z12
      by_cases ha : st.armed = 1
      · have hA : WE = 8 := by rw [← HWE.out, HO.out, if_pos ha]; rfl
        have hB : WS = cutS (flushS st) st.keep := by rw [← HWS.out, HO.out, if_pos ha]; rfl
        rw [if_pos ha] at hd4
        rw [if_pos ha]
        have D4 := Lib.hid hd4
        subst hA hB
        clear hd4 ha
        go_wp2_with fail
        go_ret
        exact ⟨rfl, Z', D4.out, T4.out⟩
      · have hA : WE = 0 := by rw [← HWE.out, HO.out, if_neg ha]; rfl
        have hB : WS = flushS (putS (flushS st) (ep % 2) V) := by rw [← HWS.out, HO.out, if_neg ha]; rfl
        rw [if_neg ha] at hd4
        rw [if_neg ha]
        have D4 := Lib.hid hd4
        subst hA hB
        clear hd4 ha
        go_wp2_with fail
        refine (flush_any Z' d _ w4 D4.out).mono ?_
        rintro e w5 ⟨rfl, hd5, ht5⟩
        have hoff : (putS (flushS st) (ep % 2) V).off = false := HO.out
        rw [hoff] at hd5 ⊢
        have D5 : Hid (DkIn w5 Z' d (flushS (putS (flushS st) (ep % 2) V))) := hd5
        have T5 := Lib.hid (T4.out.trans ht5)
        clear hd5 ht5 hoff
        go_wp2_with fail
        go_ret
        exact ⟨rfl, Z', D5.out, T5.out⟩
end Go.Proofs.Ytcbnebcooiagmaa
namespace Go.Proofs.Ytcbnebcooiagmaa
open Go.RowKit
def keyL (b : Blk) : List Int := if supE b = 0 then putL (rnum (sumB (supV b))) 4 else [0, 0, 0, 0]
def keyA (S : Int) (k : Nat) : Array Value := #[.int .u8 (if 0 < k then S % 256 else 0), .int .u8 (if 1 < k then S / 256 % 256 else 0), .int .u8 (if 2 < k then S / 65536 % 256 else 0), .int .u8 (if 3 < k then S / 16777216 else 0)]
theorem keyA_0 (S : Int) : keyA S 0 = #[.int .u8 0, .int .u8 0, .int .u8 0, .int .u8 0] := rfl
theorem keyA_1 (S : Int) : keyA S 1 = #[.int .u8 (S % 256), .int .u8 0, .int .u8 0, .int .u8 0] := rfl
theorem keyA_2 (S : Int) : keyA S 2 = #[.int .u8 (S % 256), .int .u8 (S / 256 % 256), .int .u8 0, .int .u8 0] := rfl
theorem keyA_3 (S : Int) : keyA S 3 = #[.int .u8 (S % 256), .int .u8 (S / 256 % 256), .int .u8 (S / 65536 % 256), .int .u8 0] := rfl
theorem keyA_4 (S : Int) : keyA S 4 = #[.int .u8 (S % 256), .int .u8 (S / 256 % 256), .int .u8 (S / 65536 % 256), .int .u8 (S / 16777216)] := rfl
theorem cells4 {w : World} {b T : Nat} {x0 x1 x2 x3 : Value} (h : w.heap[b]? = some (.cells #[x0, x1, x2, x3] T (0, 0))) : w.cell? ⟨b, 0, none⟩ = some x0 ∧ w.cell? ⟨b, 1, none⟩ = some x1 ∧ w.cell? ⟨b, 2, none⟩ = some x2 ∧ w.cell? ⟨b, 3, none⟩ = some x3 :=
  ⟨by rw [cell_of_row w _ _ _ _ _ h]; rfl, by rw [cell_of_row w _ _ _ _ _ h]; rfl, by rw [cell_of_row w _ _ _ _ _ h]; rfl, by rw [cell_of_row w _ _ _ _ _ h]; rfl⟩
theorem fold4 (x0 x1 x2 x3 y0 y1 y2 y3 : Value) : List.foldl (fun (c : Array Value) (p : Nat × Value) => c.setIfInBounds p.1 p.2) #[x0, x1, x2, x3] [(0, y0), (1, y1), (2, y2), (3, y3)] = #[y0, y1, y2, y3] := by
  simp only [List.foldl_cons, List.foldl_nil, List.setIfInBounds_toArray, List.set_cons_zero, List.set_cons_succ]
/-- Four bytes as an array's value. -/
def keyV (l : List Int) : Value := .agg (l.map (Value.int .u8)).toArray
set_option linter.unusedSimpArgs false in
set_option linter.unusedVariables false in
set_option maxRecDepth 100000 in
set_option maxHeartbeats 8000000 in
theorem key_any (b : Blk) (w : World) (hw : b.Wf) : Calls Try.prog 14 #[b.val] w fun e w' => e = .returned (keyV (keyL b)) ∧ Below w.heap.size w w' := by
  obtain ⟨E1, hE1⟩ : ∃ x, supE b = x := ⟨_, rfl⟩
  obtain ⟨V, hV⟩ : ∃ x, supV b = x := ⟨_, rfl⟩
  have HENC : Hid (∀ w1, Calls Try.prog 9 #[b.val] w1 fun e w' => ∃ v, e = .returned (.tuple #[v, .int .i64 E1]) ∧ Owns .u8 5 w' w1.heap.size v V ∧ Below w1.heap.size w1 w') := fun w1 => by
    have := supenc_any b w1 hw
    unfold GivesSec at this
    rw [hE1, hV] at this
    exact this
  obtain ⟨KL, hKL⟩ : ∃ x, keyL b = x := ⟨_, rfl⟩
  rw [hKL]
  unfold keyL at hKL
  rw [hE1, hV] at hKL
  have HKL := Lib.hid hKL
  clear hE1 hV hKL hw
  obtain ⟨ep, f0, f1, f2, f3, f4, f5, f6, f7, f8, rs, rn, sq⟩ := b
  replace HENC : Hid (∀ w1, Calls Try.prog 9 #[.agg #[.int .u64 ep, .int .i64 f0, .int .i64 f1, .int .i64 f2, .int .i64 f3, .int .i64 f4, .int .i64 f5, .int .i64 f6, .int .i64 f7, .int .i64 f8, .int .i64 rs, .int .i64 rn, .int .u64 sq]] w1 fun e w' => ∃ v, e = .returned (.tuple #[v, .int .i64 E1]) ∧ Owns .u8 5 w' w1.heap.size v V ∧ Below w1.heap.size w1 w') := HENC
  show Calls _ _ #[.agg #[.int .u64 ep, .int .i64 f0, .int .i64 f1, .int .i64 f2, .int .i64 f3, .int .i64 f4, .int .i64 f5, .int .i64 f6, .int .i64 f7, .int .i64 f8, .int .i64 rs, .int .i64 rn, .int .u64 sq]] _ _
  have hba : Below w.heap.size w (((w.alloc (.cells #[.int .u64 ep, .int .i64 f0, .int .i64 f1, .int .i64 f2, .int .i64 f3, .int .i64 f4, .int .i64 f5, .int .i64 f6, .int .i64 f7, .int .i64 f8, .int .i64 rs, .int .i64 rn, .int .u64 sq] 28)).alloc (.cells #[.int .u8 0, .int .u8 0, .int .u8 0, .int .u8 0] 42)).alloc (.cells #[.int .u8 0, .int .u8 0, .int .u8 0, .int .u8 0] 42)) := (((Below.refl _ _).alloc (Nat.le_refl _) _).alloc (by simp) _).alloc (by simp; omega) _
  have hrb : (((w.alloc (.cells #[.int .u64 ep, .int .i64 f0, .int .i64 f1, .int .i64 f2, .int .i64 f3, .int .i64 f4, .int .i64 f5, .int .i64 f6, .int .i64 f7, .int .i64 f8, .int .i64 rs, .int .i64 rn, .int .u64 sq] 28)).alloc (.cells #[.int .u8 0, .int .u8 0, .int .u8 0, .int .u8 0] 42)).alloc (.cells #[.int .u8 0, .int .u8 0, .int .u8 0, .int .u8 0] 42)).heap[w.heap.size + 1]? = some (.cells #[.int .u8 0, .int .u8 0, .int .u8 0, .int .u8 0] 42 (0, 0)) := by
    rw [heap_old _ _ (by simp)]
    have := heap_alloc_new (w.alloc (.cells #[.int .u64 ep, .int .i64 f0, .int .i64 f1, .int .i64 f2, .int .i64 f3, .int .i64 f4, .int .i64 f5, .int .i64 f6, .int .i64 f7, .int .i64 f8, .int .i64 rs, .int .i64 rn, .int .u64 sq] 28)) (.cells #[.int .u8 0, .int .u8 0, .int .u8 0, .int .u8 0] 42)
    simpa using this
  have hkb : (((w.alloc (.cells #[.int .u64 ep, .int .i64 f0, .int .i64 f1, .int .i64 f2, .int .i64 f3, .int .i64 f4, .int .i64 f5, .int .i64 f6, .int .i64 f7, .int .i64 f8, .int .i64 rs, .int .i64 rn, .int .u64 sq] 28)).alloc (.cells #[.int .u8 0, .int .u8 0, .int .u8 0, .int .u8 0] 42)).alloc (.cells #[.int .u8 0, .int .u8 0, .int .u8 0, .int .u8 0] 42)).heap[w.heap.size + 1 + 1]? = some (.cells #[.int .u8 0, .int .u8 0, .int .u8 0, .int .u8 0] 42 (0, 0)) := by
    have := heap_alloc_new ((w.alloc (.cells #[.int .u64 ep, .int .i64 f0, .int .i64 f1, .int .i64 f2, .int .i64 f3, .int .i64 f4, .int .i64 f5, .int .i64 f6, .int .i64 f7, .int .i64 f8, .int .i64 rs, .int .i64 rn, .int .u64 sq] 28)).alloc (.cells #[.int .u8 0, .int .u8 0, .int .u8 0, .int .u8 0] 42)) (.cells #[.int .u8 0, .int .u8 0, .int .u8 0, .int .u8 0] 42)
    simpa using this
  obtain ⟨hb, hhb⟩ : ∃ hb, w.heap.size = hb := ⟨_, rfl⟩
  obtain ⟨wa, hwa⟩ : ∃ wa, (((w.alloc (.cells #[.int .u64 ep, .int .i64 f0, .int .i64 f1, .int .i64 f2, .int .i64 f3, .int .i64 f4, .int .i64 f5, .int .i64 f6, .int .i64 f7, .int .i64 f8, .int .i64 rs, .int .i64 rn, .int .u64 sq] 28)).alloc (.cells #[.int .u8 0, .int .u8 0, .int .u8 0, .int .u8 0] 42)).alloc (.cells #[.int .u8 0, .int .u8 0, .int .u8 0, .int .u8 0] 42)) = wa := ⟨_, rfl⟩
  rw [hwa, hhb] at hba hrb hkb
  have HBA := Lib.hid hba
  have HR0 := Lib.hid hrb
  have HK0 := Lib.hid hkb
  have HHB := Lib.hid hhb
  have HWA := Lib.hid hwa
  have hlt := (Array.getElem?_eq_some_iff.1 hkb).1
  clear hba hrb hkb hhb hwa
  go_enter Try.func14, Try.ntmps14
  go_wp2_with fail
  rw [HWA.out, HHB.out]
  refine (HENC.out wa).mono ?_
  rintro e w1 ⟨v1, rfl, ho1, hb1⟩
  obtain ⟨n1, hn1⟩ : ∃ n1, V.length = n1 := ⟨_, rfl⟩
  obtain ⟨a1, c1, rfl⟩ := ho1.shapeN n1 hn1
  have HR1 := Lib.hid (row_keep HR0.out hb1)
  have HK1 := Lib.hid (row_keep HK0.out hb1)
  have HB1 := Lib.hid (Below.trans HBA.out (hb1.mono (by omega)))
  have O1 := Lib.hid ho1
  clear ho1 hb1 hn1
  by_cases h1 : E1 = 0
  rotate_left
  · have d1 : (E1 != 0) = true := by simpa using h1
    have hL : KL = [0, 0, 0, 0] := by rw [← HKL.out, if_neg h1]
    subst hL
    clear h1
    obtain ⟨y0, y1, y2, y3⟩ := cells4 HK1.out
    obtain ⟨x0, x1, x2, x3⟩ := cells4 HR1.out
    have hrf : ∀ i, w1.frozen? ⟨hb + 1, i, none⟩ = false := fun i => frozen_of_row w1 _ i _ _ HR1.out
    go_wp2_with fail
    change bodyPost _ _ _ _ _ (sets w1 (hb + 1) [(0, .int .u8 0), (1, .int .u8 0), (2, .int .u8 0), (3, .int .u8 0)])
    have hrow := sets_row [(0, .int .u8 0), (1, .int .u8 0), (2, .int .u8 0), (3, .int .u8 0)] HR1.out
    have hbel : Below hb w (sets w1 (hb + 1) [(0, .int .u8 0), (1, .int .u8 0), (2, .int .u8 0), (3, .int .u8 0)]) := HB1.out.grown (sets_grown _ _) (by have := (Array.getElem?_eq_some_iff.1 HR1.out).1; omega) (fun q hq => by injection hq with hq; omega)
    generalize sets w1 (hb + 1) [(0, .int .u8 0), (1, .int .u8 0), (2, .int .u8 0), (3, .int .u8 0)] = w19 at *
    rw [fold4] at hrow
    clear x0 x1 x2 x3 hrf
    obtain ⟨x0, x1, x2, x3⟩ := cells4 hrow
    refine bodyPost_ret (v := .agg #[.int .u8 0, .int .u8 0, .int .u8 0, .int .u8 0]) (by simp [results, Try.results14, go_sem, x0, x1, x2, x3]) rfl ?_
    rw [HHB.out]
    exact ⟨rfl, hbel⟩
  subst h1
  obtain ⟨S, hS⟩ : ∃ S, rnum (sumB V) = S := ⟨_, rfl⟩
  have hS0 : 0 ≤ S ∧ S ≤ 4294967295 := by rw [← hS]; exact u32_bd _
  have hL : KL = [S % 256, S / 256 % 256, S / 65536 % 256, S / 16777216] := by
    have h9 : S / 16777216 % 256 = S / 16777216 := by omega
    rw [← HKL.out, if_pos rfl, hS]
    simp [putL, h9]
  subst hL
  have HS := Lib.hid hS
  clear hS
  go_wp2_with fail
  refine (sum_one _ _ V _ (PartsAt.one O1.out.rd _)).mono ?_
  rintro e w2 ⟨rfl, hb2⟩
  rw [HS.out]
  have hal := (Below.refl w1.heap.size w1).alloc (Nat.le_refl _) (.cells #[.slice a1 n1 c1] 29)
  have HR2 := Lib.hid (row_keep (row_keep HR1.out hal) hb2)
  have HK2 := Lib.hid (row_keep (row_keep HK1.out hal) hb2)
  have HB2 : Hid (Below hb w w2) := Below.trans HB1.out (Below.mono (Below.call hal hb2) (by have := (Array.getElem?_eq_some_iff.1 HR1.out).1; omega))
  clear hal hb2
  go_wp2_with fail
  go_loopw [19] (fun i wr => ∃ k : Nat, k ≤ 4 ∧ i = .int .i64 k ∧ Hid (wr.heap[hb + 1 + 1]? = some (.cells (keyA S k) 42 (0, 0))) ∧ Hid (wr.heap[hb + 1]? = some (.cells #[.int .u8 0, .int .u8 0, .int .u8 0, .int .u8 0] 42 (0, 0))) ∧ Hid (Below hb w wr)) (fun i _ => 4 - (intOf i).toNat)
  case atStart => exact ⟨0, by omega, rfl, HK2, HR2, HB2⟩
  case round =>
    clear HK2 HR2 HB2
    obtain ⟨k, hk, rfl, HK, HR, HB⟩ := hrel
    have hK := HK.out
    have hkk : k = 0 ∨ k = 1 ∨ k = 2 ∨ k = 3 ∨ k = 4 := by omega
    rcases hkk with hk4 | hk4 | hk4 | hk4 | hk4
    · subst hk4
      replace hK : wr.heap[hb + 1 + 1]? = some (.cells (keyA S 0) 42 (0, 0)) := hK
      rw [keyA_0] at hK
      obtain ⟨y0, y1, y2, y3⟩ := cells4 hK
      have hkf : ∀ i, wr.frozen? ⟨hb + 1 + 1, i, none⟩ = false := fun i => frozen_of_row wr _ i _ _ hK
      have hK2 := heap_setCell_same wr (hb + 1 + 1) 0 _ _ (.int .u8 (S % 256)) hK
      have HB2 : Hid (Below hb w (wr.setCell ⟨hb + 1 + 1, 0, none⟩ (.int .u8 (S % 256)))) := HB.out.grown (rcell_grown _ _ _ _) (by have := (Array.getElem?_eq_some_iff.1 hK).1; omega) (fun q hq => by injection hq with hq; omega)
      have HR2 := Lib.hid (((rcell_grown wr (hb + 1 + 1) 0 (.int .u8 (S % 256))).block (hb + 1) (Array.getElem?_eq_some_iff.1 HR.out).1 (fun e => by injection e with e; omega)).trans HR.out)
      have HK2 := Lib.hid hK2
      clear hK hK2
      go_wp2_with fail
      clear y0 y1 y2 y3 hkf
      go_roundw
      case rel => exact ⟨1, by omega, rfl, by rw [keyA_1]; exact HK2.out, HR2, HB2⟩
      case measure => simp [intOf]
    · subst hk4
      replace hK : wr.heap[hb + 1 + 1]? = some (.cells (keyA S 1) 42 (0, 0)) := hK
      rw [keyA_1] at hK
      obtain ⟨y0, y1, y2, y3⟩ := cells4 hK
      have hkf : ∀ i, wr.frozen? ⟨hb + 1 + 1, i, none⟩ = false := fun i => frozen_of_row wr _ i _ _ hK
      have hK2 := heap_setCell_same wr (hb + 1 + 1) 1 _ _ (.int .u8 (S / 256 % 256)) hK
      have HB2 : Hid (Below hb w (wr.setCell ⟨hb + 1 + 1, 1, none⟩ (.int .u8 (S / 256 % 256)))) := HB.out.grown (rcell_grown _ _ _ _) (by have := (Array.getElem?_eq_some_iff.1 hK).1; omega) (fun q hq => by injection hq with hq; omega)
      have HR2 := Lib.hid (((rcell_grown wr (hb + 1 + 1) 1 (.int .u8 (S / 256 % 256))).block (hb + 1) (Array.getElem?_eq_some_iff.1 HR.out).1 (fun e => by injection e with e; omega)).trans HR.out)
      have HK2 := Lib.hid hK2
      clear hK hK2
      go_wp2_with fail
      clear y0 y1 y2 y3 hkf
      go_roundw
      case rel => exact ⟨2, by omega, rfl, by rw [keyA_2]; exact HK2.out, HR2, HB2⟩
      case measure => simp [intOf]
    · subst hk4
      replace hK : wr.heap[hb + 1 + 1]? = some (.cells (keyA S 2) 42 (0, 0)) := hK
      rw [keyA_2] at hK
      obtain ⟨y0, y1, y2, y3⟩ := cells4 hK
      have hkf : ∀ i, wr.frozen? ⟨hb + 1 + 1, i, none⟩ = false := fun i => frozen_of_row wr _ i _ _ hK
      have hK2 := heap_setCell_same wr (hb + 1 + 1) 2 _ _ (.int .u8 (S / 65536 % 256)) hK
      have HB2 : Hid (Below hb w (wr.setCell ⟨hb + 1 + 1, 2, none⟩ (.int .u8 (S / 65536 % 256)))) := HB.out.grown (rcell_grown _ _ _ _) (by have := (Array.getElem?_eq_some_iff.1 hK).1; omega) (fun q hq => by injection hq with hq; omega)
      have HR2 := Lib.hid (((rcell_grown wr (hb + 1 + 1) 2 (.int .u8 (S / 65536 % 256))).block (hb + 1) (Array.getElem?_eq_some_iff.1 HR.out).1 (fun e => by injection e with e; omega)).trans HR.out)
      have HK2 := Lib.hid hK2
      clear hK hK2
      go_wp2_with fail
      clear y0 y1 y2 y3 hkf
      go_roundw
      case rel => exact ⟨3, by omega, rfl, by rw [keyA_3]; exact HK2.out, HR2, HB2⟩
      case measure => simp [intOf]
    · subst hk4
      replace hK : wr.heap[hb + 1 + 1]? = some (.cells (keyA S 3) 42 (0, 0)) := hK
      rw [keyA_3] at hK
      obtain ⟨y0, y1, y2, y3⟩ := cells4 hK
      have hkf : ∀ i, wr.frozen? ⟨hb + 1 + 1, i, none⟩ = false := fun i => frozen_of_row wr _ i _ _ hK
      have hK2 := heap_setCell_same wr (hb + 1 + 1) 3 _ _ (.int .u8 (S / 16777216)) hK
      have HB2 : Hid (Below hb w (wr.setCell ⟨hb + 1 + 1, 3, none⟩ (.int .u8 (S / 16777216)))) := HB.out.grown (rcell_grown _ _ _ _) (by have := (Array.getElem?_eq_some_iff.1 hK).1; omega) (fun q hq => by injection hq with hq; omega)
      have HR2 := Lib.hid (((rcell_grown wr (hb + 1 + 1) 3 (.int .u8 (S / 16777216))).block (hb + 1) (Array.getElem?_eq_some_iff.1 HR.out).1 (fun e => by injection e with e; omega)).trans HR.out)
      have HK2 := Lib.hid hK2
      clear hK hK2
      go_wp2_with fail
      clear y0 y1 y2 y3 hkf
      go_roundw
      case rel => exact ⟨4, by omega, rfl, by rw [keyA_4]; exact HK2.out, HR2, HB2⟩
      case measure => simp [intOf]
    · subst hk4
      replace hK : wr.heap[hb + 1 + 1]? = some (.cells (keyA S 4) 42 (0, 0)) := hK
      rw [keyA_4] at hK
      obtain ⟨y0, y1, y2, y3⟩ := cells4 hK
      obtain ⟨x0, x1, x2, x3⟩ := cells4 HR.out
      have hrf : ∀ i, wr.frozen? ⟨hb + 1, i, none⟩ = false := fun i => frozen_of_row wr _ i _ _ HR.out
      go_wp2_with fail
      change bodyPost _ _ _ _ _ (sets wr (hb + 1) [(0, .int .u8 (S % 256)), (1, .int .u8 (S / 256 % 256)), (2, .int .u8 (S / 65536 % 256)), (3, .int .u8 (S / 16777216))])
      have hrow := sets_row [(0, .int .u8 (S % 256)), (1, .int .u8 (S / 256 % 256)), (2, .int .u8 (S / 65536 % 256)), (3, .int .u8 (S / 16777216))] HR.out
      have hbel : Below hb w (sets wr (hb + 1) [(0, .int .u8 (S % 256)), (1, .int .u8 (S / 256 % 256)), (2, .int .u8 (S / 65536 % 256)), (3, .int .u8 (S / 16777216))]) := HB.out.grown (sets_grown _ _) (by have := (Array.getElem?_eq_some_iff.1 HR.out).1; omega) (fun q hq => by injection hq with hq; omega)
      generalize sets wr (hb + 1) [(0, .int .u8 (S % 256)), (1, .int .u8 (S / 256 % 256)), (2, .int .u8 (S / 65536 % 256)), (3, .int .u8 (S / 16777216))] = w19 at *
      rw [fold4] at hrow
      clear x0 x1 x2 x3 y0 y1 y2 y3 hrf hK HK HR HB
      obtain ⟨x0, x1, x2, x3⟩ := cells4 hrow
      refine bodyPost_ret (v := .agg #[.int .u8 (S % 256), .int .u8 (S / 256 % 256), .int .u8 (S / 65536 % 256), .int .u8 (S / 16777216)]) (by simp [results, Try.results14, go_sem, x0, x1, x2, x3]) rfl ?_
      rw [HHB.out]
      exact ⟨rfl, hbel⟩
end Go.Proofs.Ytcbnebcooiagmaa
namespace Go.Proofs.Ytcbnebcooiagmaa
open Go.RowKit
set_option maxRecDepth 100000 in
theorem eq_four (w : World) (a b c d e f g h : Int) :
    ((Op.equalIn 10000 42 (.agg #[.int .u8 a, .int .u8 b, .int .u8 c, .int .u8 d]) (.agg #[.int .u8 e, .int .u8 f, .int .u8 g, .int .u8 h])).run Try.prog w) = .ok (a == e && (b == f && (c == g && d == h))) w := by
  have hi : Try.prog.info? 5 = some _ := rfl
  have hu : Try.prog.underlying 42 = some (.array 4 5) := by kernel_rfl
  have hb : Try.prog.underlying 5 = some (.int .u8) := by kernel_rfl
  have hc : Try.prog.cellsOf 5 = 1 := by kernel_rfl
  rw [show (10000 : Nat) = 9999 + 1 from rfl, run_equalIn_array w 9999 _ _ hu hi, hc]
  have hk : Try.prog.plainKey 5 = true := by kernel_rfl
  have hp : ∀ (w : World) (xs : Array Value) (i : Nat) (v : Value), xs[i * 1]? = some v → (part 5 xs (i * 1)).run Try.prog w = .ok v w := fun w xs i v hv => run_part_plain w hk hv
  have he : ∀ (w : World) (x y : Int), (Op.equalIn 9999 5 (.int .u8 x) (.int .u8 y)).run Try.prog w = .ok (x == y) w := fun w x y => run_equalIn_int w 9998 _ _ _ x y hb
  rw [show List.range 4 = [0, 1, 2, 3] from rfl]
  have step : ∀ (w : World) (xs ys : Array Value) (i : Nat) (is : List Nat) (x y : Int), xs[i * 1]? = some (.int .u8 x) → ys[i * 1]? = some (.int .u8 y) → (Op.eqItems 9999 5 1 xs ys (i :: is)).run Try.prog w = if (x == y) = true then (Op.eqItems 9999 5 1 xs ys is).run Try.prog w else .ok false w := by
    intro w xs ys i is x y hx hy
    rw [Op.eqItems]
    simp only [Sem.run_bind, hp w xs i _ hx, hp w ys i _ hy, he, Result.andThen_ok]
    cases x == y <;> rfl
  rw [step w _ _ 0 _ a e rfl rfl, step w _ _ 1 _ b f rfl rfl, step w _ _ 2 _ c g rfl rfl, step w _ _ 3 _ d h rfl rfl]
  cases a == e <;> cases b == f <;> cases c == g <;> cases d == h <;> rfl
end Go.Proofs.Ytcbnebcooiagmaa
namespace Go.Proofs.Ytcbnebcooiagmaa
open Go.RowKit
def slotB (st : Dk) (i : Nat) : Blk := supD (secB st i)
/-- What lies in a slot is a block of the disk's shape, in its place. -/
def slotOk (st : Dk) (i : Nat) : Bool := decide (supDE (secB st i) = 0) && decide ((slotB st i).ep % 2 = i) && fitB st (slotB st i)
def bestS (st : Dk) : Nat → Bool
  | 0 => false
  | k + 1 => slotOk st k || bestS st k
def bestB (st : Dk) : Nat → Blk
  | 0 => blk0
  | k + 1 => if (slotOk st k && (!bestS st k || decide ((bestB st k).ep < (slotB st k).ep))) = true then slotB st k else bestB st k
def readN (st : Dk) (k : Nat) : Dk := { st with reads := st.reads + k }
theorem rd_eq {st : Dk} (ho : st.off = false) (hn : 2 ≤ st.kept.length) (k : Nat) (hk : k < 2) : rdE (readN st k) k = 0 ∧ rdV (readN st k) k = secB st k ∧ rdS (readN st k) k = readN st (k + 1) := by
  have hi : inS (readN st k) k = true := by
    unfold inS
    rw [decide_eq_true (show (0 : Int) ≤ k by omega), decide_eq_true (show (k : Int) < ((readN st k).kept.length : Int) by show (k : Int) < (st.kept.length : Int); omega)]
    rfl
  have h1 : rdE (readN st k) k = 0 := by
    unfold rdE
    rw [hi]
    show (if st.off = true then (8 : Int) else _) = 0
    rw [ho]
    rfl
  refine ⟨h1, by unfold rdV; rw [if_pos h1, Int.toNat_natCast]; rfl, ?_⟩
  unfold rdS
  rw [if_pos h1]
  unfold readN
  simp only [Dk.mk.injEq, true_and]
  show st.reads + (k : Int) + 1 = st.reads + ((k + 1 : Nat) : Int)
  omega
theorem secB_le {st : Dk} (h : DkOk st) (i : Nat) : (secB st i).length ≤ 4096 := by
  have hs := h.size.2
  unfold secB
  split
  · rename_i j _
    cases hp : st.pend[j.toNat]? with
    | none => simp
    | some p =>
      have := (h.pend p (List.mem_of_getElem? hp)).1
      simp only [Option.map_some, Option.getD_some]
      omega
  · cases hp : st.kept[i]? with
    | none => simp
    | some l =>
      have := h.kept l (List.mem_of_getElem? hp)
      simp only [Option.getD_some]
      omega
theorem Tnd.trans_at {Z : Nat → Prop} {w w1 w2 : World} {b : Nat} (t : Tnd Z Z w w1) (hg : w1.grownBy w2 (some b)) (hb : w.heap.size ≤ b) : Tnd Z Z w w2 :=
  ⟨hg.os.trans t.os, hg.tape.trans t.tape, hg.output.trans t.output, Nat.le_trans t.size hg.size, fun k hk hz => (hg.block k (Nat.lt_of_lt_of_le hk t.size) (fun e => by injection e with e; omega)).trans (t.block k hk hz), t.sub⟩
theorem DkIn.ok {w : World} {Z : Nat → Prop} {d : Nat} {st : Dk} (h : DkIn w Z d st) : DkOk st := by
  obtain ⟨_, _, _, _, _, _, _, p⟩ := h
  exact p.ok
def Blk.row (b : Blk) : Array Value := #[.int .u64 b.ep, .int .i64 b.c0, .int .i64 b.c1, .int .i64 b.c2, .int .i64 b.c3, .int .i64 b.c4, .int .i64 b.c5, .int .i64 b.c6, .int .i64 b.c7, .int .i64 b.c8, .int .i64 b.rs, .int .i64 b.rn, .int .u64 b.sq]
theorem blk0_wf : blk0.Wf := ⟨by decide, by decide, by decide, by decide, by decide, by decide, by decide, by decide, by decide, by decide, by decide, by decide, by decide⟩
theorem key_four (b : Blk) : ∃ y0 y1 y2 y3, keyL b = [y0, y1, y2, y3] := by
  unfold keyL
  split
  · exact ⟨_, _, _, _, by simp only [putL]; rfl⟩
  · exact ⟨_, _, _, _, rfl⟩
def supRE (st : Dk) : Int := if st.off = true then 8 else if bestS st 2 = true then 0 else 20
def supRB (st : Dk) : Blk := if st.off = true then blk0 else if bestS st 2 = true then bestB st 2 else blk0
def supRS (st : Dk) : Dk := if st.off = true then st else readN st 2
set_option linter.unusedSimpArgs false in
set_option linter.unusedVariables false in
set_option maxRecDepth 100000 in
set_option maxHeartbeats 1600000 in
theorem supread_off (Z : Nat → Prop) (d : Nat) (st : Dk) (w : World) (hD : DkIn w Z d st) (ho : st.off = true) (hrd : st.reads + 2 ≤ 4611686018427387904) :
    Calls Try.prog 22 #[.pointer (some ⟨d, 0, none⟩)] w fun e w' => e = .returned (.tuple #[blk0.val, .int .i64 8]) ∧ DkIn w' Z d st ∧ Tnd Z Z w w' := by
  have hE : rdE st 0 = 8 := by unfold rdE; rw [if_pos ho]
  have hS : rdS st 0 = st := by unfold rdS; rw [if_neg (by rw [hE]; decide)]
  have hV : rdV st 0 = [] := by unfold rdV; rw [if_neg (by rw [hE]; decide)]
  have HE := Lib.hid hE
  have HS := Lib.hid hS
  have HV := Lib.hid hV
  clear hE hS hV ho
  have hba : Below w.heap.size w ((w.alloc (.cells #[.int .u64 0, .int .i64 0, .int .i64 0, .int .i64 0, .int .i64 0, .int .i64 0, .int .i64 0, .int .i64 0, .int .i64 0, .int .i64 0, .int .i64 0, .int .i64 0, .int .u64 0] 28)).alloc (.cells #[.int .u64 0, .int .i64 0, .int .i64 0, .int .i64 0, .int .i64 0, .int .i64 0, .int .i64 0, .int .i64 0, .int .i64 0, .int .i64 0, .int .i64 0, .int .i64 0, .int .u64 0] 28)) := ((Below.refl _ _).alloc (Nat.le_refl _) _).alloc (by simp) _
  have hrb : ((w.alloc (.cells #[.int .u64 0, .int .i64 0, .int .i64 0, .int .i64 0, .int .i64 0, .int .i64 0, .int .i64 0, .int .i64 0, .int .i64 0, .int .i64 0, .int .i64 0, .int .i64 0, .int .u64 0] 28)).alloc (.cells #[.int .u64 0, .int .i64 0, .int .i64 0, .int .i64 0, .int .i64 0, .int .i64 0, .int .i64 0, .int .i64 0, .int .i64 0, .int .i64 0, .int .i64 0, .int .i64 0, .int .u64 0] 28)).heap[w.heap.size]? = some (.cells #[.int .u64 0, .int .i64 0, .int .i64 0, .int .i64 0, .int .i64 0, .int .i64 0, .int .i64 0, .int .i64 0, .int .i64 0, .int .i64 0, .int .i64 0, .int .i64 0, .int .u64 0] 28 (0, 0)) := by
    rw [heap_old _ _ (by simp)]
    exact heap_alloc_new _ _
  have hmb : ((w.alloc (.cells #[.int .u64 0, .int .i64 0, .int .i64 0, .int .i64 0, .int .i64 0, .int .i64 0, .int .i64 0, .int .i64 0, .int .i64 0, .int .i64 0, .int .i64 0, .int .i64 0, .int .u64 0] 28)).alloc (.cells #[.int .u64 0, .int .i64 0, .int .i64 0, .int .i64 0, .int .i64 0, .int .i64 0, .int .i64 0, .int .i64 0, .int .i64 0, .int .i64 0, .int .i64 0, .int .i64 0, .int .u64 0] 28)).heap[w.heap.size + 1]? = some (.cells #[.int .u64 0, .int .i64 0, .int .i64 0, .int .i64 0, .int .i64 0, .int .i64 0, .int .i64 0, .int .i64 0, .int .i64 0, .int .i64 0, .int .i64 0, .int .i64 0, .int .u64 0] 28 (0, 0)) := by
    have := heap_alloc_new (w.alloc (.cells #[.int .u64 0, .int .i64 0, .int .i64 0, .int .i64 0, .int .i64 0, .int .i64 0, .int .i64 0, .int .i64 0, .int .i64 0, .int .i64 0, .int .i64 0, .int .i64 0, .int .u64 0] 28)) (.cells #[.int .u64 0, .int .i64 0, .int .i64 0, .int .i64 0, .int .i64 0, .int .i64 0, .int .i64 0, .int .i64 0, .int .i64 0, .int .i64 0, .int .i64 0, .int .i64 0, .int .u64 0] 28)
    simpa using this
  have hzl := hD.1
  have HDa := Lib.hid (hD.below hba)
  have HTA := Lib.hid (below_tnd hba Z)
  obtain ⟨rb, hhb⟩ : ∃ rb, w.heap.size = rb := ⟨_, rfl⟩
  obtain ⟨wa, hwa⟩ : ∃ wa, ((w.alloc (.cells #[.int .u64 0, .int .i64 0, .int .i64 0, .int .i64 0, .int .i64 0, .int .i64 0, .int .i64 0, .int .i64 0, .int .i64 0, .int .i64 0, .int .i64 0, .int .i64 0, .int .u64 0] 28)).alloc (.cells #[.int .u64 0, .int .i64 0, .int .i64 0, .int .i64 0, .int .i64 0, .int .i64 0, .int .i64 0, .int .i64 0, .int .i64 0, .int .i64 0, .int .i64 0, .int .i64 0, .int .u64 0] 28)) = wa := ⟨_, rfl⟩
  rw [hwa, hhb] at hrb hmb
  rw [hwa] at HDa HTA
  rw [hhb] at hzl
  have HR0 := Lib.hid hrb
  have HM0 := Lib.hid hmb
  have HHB := Lib.hid hhb
  have HWA := Lib.hid hwa
  have HZ := Lib.hid hzl
  clear hba hrb hmb hhb hwa hzl hD
  go_enter Try.func22, Try.ntmps22
  go_wp2_with fail
  rw [HWA.out, HHB.out]
  go_loopw [5, 11] (fun sm i wr => i = .int .i64 0 ∧ sm = .bool false ∧ Hid (wa = wr)) (fun _ _ _ => 0)
  case atStart => exact ⟨rfl, rfl, rfl⟩
  case round =>
    obtain ⟨rfl, rfl, hww⟩ := hrel
    have e := hww.out
    subst e
    go_wp2_with fail
    refine (read_any Z d st 0 wa HDa.out (by omega) (by omega) (by omega)).mono ?_
    rintro e w1 ⟨v1, rfl, ho1, hd1, ht1⟩
    rw [HE.out]
    rw [HS.out] at hd1
    rw [HV.out] at ho1
    obtain ⟨a1, c1, rfl⟩ := ho1.shapeN 0 rfl
    have D1 := Lib.hid hd1
    have T1 := Lib.hid (HTA.out.trans ht1)
    have HR1 := Lib.hid (row_tnd HR0.out ht1 (fun hz => by have := HZ.out rb hz; omega))
    clear ho1 hd1 ht1
    obtain ⟨r0, r1, r2, r3, r4, r5, r6, r7, r8, r9, r10, r11, r12⟩ := cells13 HR1.out
    have hrf : ∀ i, w1.frozen? ⟨rb, i, none⟩ = false := fun i => frozen_of_row w1 rb i _ _ HR1.out
    go_wp2_with fail
    change bodyPost _ _ _ _ _ (sets w1 rb [(0, .int .u64 0), (1, .int .i64 0), (2, .int .i64 0), (3, .int .i64 0), (4, .int .i64 0), (5, .int .i64 0), (6, .int .i64 0), (7, .int .i64 0), (8, .int .i64 0), (9, .int .i64 0), (10, .int .i64 0), (11, .int .i64 0), (12, .int .u64 0)])
    have hrow := sets_row [(0, .int .u64 0), (1, .int .i64 0), (2, .int .i64 0), (3, .int .i64 0), (4, .int .i64 0), (5, .int .i64 0), (6, .int .i64 0), (7, .int .i64 0), (8, .int .i64 0), (9, .int .i64 0), (10, .int .i64 0), (11, .int .i64 0), (12, .int .u64 0)] HR1.out
    have hg := sets_grown (b := rb) [(0, .int .u64 0), (1, .int .i64 0), (2, .int .i64 0), (3, .int .i64 0), (4, .int .i64 0), (5, .int .i64 0), (6, .int .i64 0), (7, .int .i64 0), (8, .int .i64 0), (9, .int .i64 0), (10, .int .i64 0), (11, .int .i64 0), (12, .int .u64 0)] w1
    have D2 := Lib.hid (D1.out.same (fun x hx => hg.block x (D1.out.1 x hx) (fun e => by injection e with e; have := HZ.out x hx; omega)) hg.size)
    have T2 := Lib.hid (T1.out.trans_at hg (by rw [HHB.out]; omega))
    generalize sets w1 rb [(0, .int .u64 0), (1, .int .i64 0), (2, .int .i64 0), (3, .int .i64 0), (4, .int .i64 0), (5, .int .i64 0), (6, .int .i64 0), (7, .int .i64 0), (8, .int .i64 0), (9, .int .i64 0), (10, .int .i64 0), (11, .int .i64 0), (12, .int .u64 0)] = w19 at *
    rw [fold13] at hrow
    clear r0 r1 r2 r3 r4 r5 r6 r7 r8 r9 r10 r11 r12 hrf hg
    obtain ⟨r0, r1, r2, r3, r4, r5, r6, r7, r8, r9, r10, r11, r12⟩ := cells13 hrow
    refine bodyPost_ret (v := .tuple #[.agg #[.int .u64 0, .int .i64 0, .int .i64 0, .int .i64 0, .int .i64 0, .int .i64 0, .int .i64 0, .int .i64 0, .int .i64 0, .int .i64 0, .int .i64 0, .int .i64 0, .int .u64 0], .int .i64 8]) (by simp [results, Try.results22, go_sem, r0, r1, r2, r3, r4, r5, r6, r7, r8, r9, r10, r11, r12]) rfl ?_
    exact ⟨rfl, D2.out, T2.out⟩
/-- Read's state when k slots have been looked at. -/
structure RdSt (Z : Nat → Prop) (d : Nat) (st : Dk) (w wr : World) (rb k : Nat) (B : Blk) : Prop where
  din : DkIn wr Z d (readN st k)
  tnd : Tnd Z Z w wr
  res : wr.heap[rb]? = some (.cells #[.int .u64 0, .int .i64 0, .int .i64 0, .int .i64 0, .int .i64 0, .int .i64 0, .int .i64 0, .int .i64 0, .int .i64 0, .int .i64 0, .int .i64 0, .int .i64 0, .int .u64 0] 28 (0, 0))
  bst : wr.heap[rb + 1]? = some (.cells B.row 28 (0, 0))
  z : ∀ x, Z x → x < rb
  lo : w.heap.size = rb
section
variable {Z : Nat → Prop} {d : Nat} {st : Dk} {w wr w1 : World} {rb k : Nat} {B : Blk}
theorem RdSt.next (s : RdSt Z d st w wr rb k B) (hb : Below wr.heap.size wr w1) : RdSt Z d st w w1 rb k B :=
  ⟨s.din.below hb, s.tnd.trans (below_tnd hb Z), row_keep s.res hb, row_keep s.bst hb, s.z, s.lo⟩
theorem RdSt.turn {k' : Nat} (s : RdSt Z d st w wr rb k B) (hd : DkIn w1 Z d (readN st k')) (ht : Tnd Z Z wr w1) : RdSt Z d st w w1 rb k' B :=
  ⟨hd, s.tnd.trans ht, row_tnd s.res ht (fun h => by have := s.z _ h; omega), row_tnd s.bst ht (fun h => by have := s.z _ h; omega), s.z, s.lo⟩
theorem RdSt.best {C : Blk} (s : RdSt Z d st w wr rb k B) (L : List (Nat × Value)) (hL : L.foldl (fun c p => c.setIfInBounds p.1 p.2) B.row = C.row) : RdSt Z d st w (sets wr (rb + 1) L) rb k C := by
  have hg := sets_grown (b := rb + 1) L wr
  refine ⟨s.din.same (fun x hx => hg.block x (s.din.1 x hx) (fun e => by injection e with e; have := s.z x hx; omega)) hg.size, s.tnd.trans_at hg (by have := s.lo; omega), (hg.block rb (Array.getElem?_eq_some_iff.1 s.res).1 (fun e => by injection e with e; omega)).trans s.res, by rw [← hL]; exact sets_row L s.bst, s.z, s.lo⟩
theorem RdSt.fin {row : Array Value} (s : RdSt Z d st w wr rb k B) (L : List (Nat × Value)) (hL : L.foldl (fun c p => c.setIfInBounds p.1 p.2) #[.int .u64 0, .int .i64 0, .int .i64 0, .int .i64 0, .int .i64 0, .int .i64 0, .int .i64 0, .int .i64 0, .int .i64 0, .int .i64 0, .int .i64 0, .int .i64 0, .int .u64 0] = row) : (sets wr rb L).heap[rb]? = some (.cells row 28 (0, 0)) ∧ DkIn (sets wr rb L) Z d (readN st k) ∧ Tnd Z Z w (sets wr rb L) := by
  have hg := sets_grown (b := rb) L wr
  exact ⟨by rw [← hL]; exact sets_row L s.res, s.din.same (fun x hx => hg.block x (s.din.1 x hx) (fun e => by injection e with e; have := s.z x hx; omega)) hg.size, s.tnd.trans_at hg (by have := s.lo; omega)⟩
end
set_option linter.unusedSimpArgs false in
set_option linter.unusedVariables false in
set_option maxRecDepth 100000 in
set_option maxHeartbeats 1600000 in
theorem supread_on (Z : Nat → Prop) (d : Nat) (st : Dk) (w : World) (hD : DkIn w Z d st) (ho : st.off = false) (hn : 2 ≤ st.kept.length) (hrd : st.reads + 2 ≤ 4611686018427387904) :
    Calls Try.prog 22 #[.pointer (some ⟨d, 0, none⟩)] w fun e w' => e = .returned (.tuple #[(supRB st).val, .int .i64 (supRE st)]) ∧ DkIn w' Z d (supRS st) ∧ Tnd Z Z w w' := by
  have HOK : Hid (DkOk st) := hD.ok
  have HRE : Hid (∀ k, k < 2 → rdE (readN st k) k = 0 ∧ rdV (readN st k) k = secB st k ∧ rdS (readN st k) k = readN st (k + 1)) := fun k hk => rd_eq ho hn k hk
  have hRS : supRS st = readN st 2 := by unfold supRS; rw [ho]; rfl
  have hREs : supRE st = if bestS st 2 = true then 0 else 20 := by unfold supRE; rw [ho]; rfl
  have hRB : supRB st = if bestS st 2 = true then bestB st 2 else blk0 := by unfold supRB; rw [ho]; rfl
  rw [hRS]
  have HREs := Lib.hid hREs
  have HRBs := Lib.hid hRB
  have HRD := Lib.hid hrd
  clear ho hn hRS hREs hRB hrd
  have hba : Below w.heap.size w ((w.alloc (.cells #[.int .u64 0, .int .i64 0, .int .i64 0, .int .i64 0, .int .i64 0, .int .i64 0, .int .i64 0, .int .i64 0, .int .i64 0, .int .i64 0, .int .i64 0, .int .i64 0, .int .u64 0] 28)).alloc (.cells #[.int .u64 0, .int .i64 0, .int .i64 0, .int .i64 0, .int .i64 0, .int .i64 0, .int .i64 0, .int .i64 0, .int .i64 0, .int .i64 0, .int .i64 0, .int .i64 0, .int .u64 0] 28)) := ((Below.refl _ _).alloc (Nat.le_refl _) _).alloc (by simp) _
  have hrb : ((w.alloc (.cells #[.int .u64 0, .int .i64 0, .int .i64 0, .int .i64 0, .int .i64 0, .int .i64 0, .int .i64 0, .int .i64 0, .int .i64 0, .int .i64 0, .int .i64 0, .int .i64 0, .int .u64 0] 28)).alloc (.cells #[.int .u64 0, .int .i64 0, .int .i64 0, .int .i64 0, .int .i64 0, .int .i64 0, .int .i64 0, .int .i64 0, .int .i64 0, .int .i64 0, .int .i64 0, .int .i64 0, .int .u64 0] 28)).heap[w.heap.size]? = some (.cells #[.int .u64 0, .int .i64 0, .int .i64 0, .int .i64 0, .int .i64 0, .int .i64 0, .int .i64 0, .int .i64 0, .int .i64 0, .int .i64 0, .int .i64 0, .int .i64 0, .int .u64 0] 28 (0, 0)) := by
    rw [heap_old _ _ (by simp)]
    exact heap_alloc_new _ _
  have hmb : ((w.alloc (.cells #[.int .u64 0, .int .i64 0, .int .i64 0, .int .i64 0, .int .i64 0, .int .i64 0, .int .i64 0, .int .i64 0, .int .i64 0, .int .i64 0, .int .i64 0, .int .i64 0, .int .u64 0] 28)).alloc (.cells #[.int .u64 0, .int .i64 0, .int .i64 0, .int .i64 0, .int .i64 0, .int .i64 0, .int .i64 0, .int .i64 0, .int .i64 0, .int .i64 0, .int .i64 0, .int .i64 0, .int .u64 0] 28)).heap[w.heap.size + 1]? = some (.cells #[.int .u64 0, .int .i64 0, .int .i64 0, .int .i64 0, .int .i64 0, .int .i64 0, .int .i64 0, .int .i64 0, .int .i64 0, .int .i64 0, .int .i64 0, .int .i64 0, .int .u64 0] 28 (0, 0)) := by
    have := heap_alloc_new (w.alloc (.cells #[.int .u64 0, .int .i64 0, .int .i64 0, .int .i64 0, .int .i64 0, .int .i64 0, .int .i64 0, .int .i64 0, .int .i64 0, .int .i64 0, .int .i64 0, .int .i64 0, .int .u64 0] 28)) (.cells #[.int .u64 0, .int .i64 0, .int .i64 0, .int .i64 0, .int .i64 0, .int .i64 0, .int .i64 0, .int .i64 0, .int .i64 0, .int .i64 0, .int .i64 0, .int .i64 0, .int .u64 0] 28)
    simpa using this
  have hzl := hD.1
  have HDa := Lib.hid (hD.below hba)
  have HTA := Lib.hid (below_tnd hba Z)
  obtain ⟨rb, hhb⟩ : ∃ rb, w.heap.size = rb := ⟨_, rfl⟩
  obtain ⟨wa, hwa⟩ : ∃ wa, ((w.alloc (.cells #[.int .u64 0, .int .i64 0, .int .i64 0, .int .i64 0, .int .i64 0, .int .i64 0, .int .i64 0, .int .i64 0, .int .i64 0, .int .i64 0, .int .i64 0, .int .i64 0, .int .u64 0] 28)).alloc (.cells #[.int .u64 0, .int .i64 0, .int .i64 0, .int .i64 0, .int .i64 0, .int .i64 0, .int .i64 0, .int .i64 0, .int .i64 0, .int .i64 0, .int .i64 0, .int .i64 0, .int .u64 0] 28)) = wa := ⟨_, rfl⟩
  rw [hwa, hhb] at hrb hmb
  rw [hwa] at HDa HTA
  rw [hhb] at hzl
  have HR0 := Lib.hid hrb
  have HM0 := Lib.hid hmb
  have HHB := Lib.hid hhb
  have HWA := Lib.hid hwa
  have HZ := Lib.hid hzl
  clear hba hrb hmb hhb hwa hzl hD
  have hst0 : RdSt Z d st w wa rb 0 blk0 := ⟨by have := HDa.out; unfold readN; simpa using this, HTA.out, HR0.out, HM0.out, HZ.out, HHB.out⟩
  have ST0 := Lib.hid hst0
  clear hst0
  go_enter Try.func22, Try.ntmps22
  go_wp2_with fail
  rw [HWA.out, HHB.out]
  go_loopw [5, 11] (fun sm i wr => ∃ k : Nat, k ≤ 2 ∧ i = .int .i64 k ∧ sm = .bool (bestS st k) ∧ Hid (RdSt Z d st w wr rb k (bestB st k)) ∧ Hid (bestS st k = true → (bestB st k).Wf ∧ 1 ≤ (bestB st k).c0)) (fun _ i _ => 2 - (intOf i).toNat)
  case atStart => exact ⟨0, by omega, rfl, rfl, ST0, fun h => by cases h⟩
  case round =>
    clear ST0 HDa HTA HR0 HM0
    obtain ⟨k, hk, rfl, rfl, ST, HWB⟩ := hrel
    obtain ⟨SM, hSM⟩ : ∃ x, bestS st k = x := ⟨_, rfl⟩
    obtain ⟨BB, hBB⟩ : ∃ x, bestB st k = x := ⟨_, rfl⟩
    rw [hSM]
    rw [hBB] at ST HWB
    rw [hSM] at HWB
    have HSM := Lib.hid hSM
    have HBB := Lib.hid hBB
    clear hSM hBB
    by_cases hkn : k < 2
    · obtain ⟨q1, q2, q3⟩ := HRE.out k hkn
      have hnext : bestS st (k + 1) = (slotOk st k || SM) ∧ bestB st (k + 1) = if (slotOk st k && (!SM || decide (BB.ep < (slotB st k).ep))) = true then slotB st k else BB := by
        rw [bestS, bestB, HSM.out, HBB.out]
        exact ⟨rfl, rfl⟩
      have HNX := Lib.hid hnext
      have hvl := secB_le HOK.out k
      obtain ⟨V, hV⟩ : ∃ V, secB st k = V := ⟨_, rfl⟩
      rw [hV] at q2 hvl
      have HV := Lib.hid hV
      have Q1 := Lib.hid q1
      have Q2 := Lib.hid q2
      have Q3 := Lib.hid q3
      clear hnext q1 q2 q3 hV
      go_wp2_with fail
      refine (read_any Z d (readN st k) k wr ST.out.din (by omega) (by omega) (by have := HRD.out; show st.reads + (k : Int) + 1 ≤ _; omega)).mono ?_
      rintro e w1 ⟨v1, rfl, ho1, hd1, ht1⟩
      rw [Q1.out]
      rw [Q3.out] at hd1
      rw [Q2.out] at ho1
      obtain ⟨n1, hn1⟩ : ∃ n1, V.length = n1 := ⟨_, rfl⟩
      obtain ⟨a1, c1, rfl⟩ := ho1.shapeN n1 hn1
      rw [hn1] at hvl
      have ST1 := Lib.hid (ST.out.turn hd1 ht1)
      have O1 := Lib.hid ho1.rd
      clear ho1 hd1 ht1 hn1 ST
      go_wp2_with fail
      refine (supdec_any a1 n1 c1 V w1 O1.out (by omega)).mono ?_
      rintro e w2 ⟨rfl, hb2⟩
      have ST2 := Lib.hid (ST1.out.next hb2)
      obtain ⟨E2, hE2⟩ : ∃ x, supDE V = x := ⟨_, rfl⟩
      obtain ⟨C2, hC2⟩ : ∃ x, supD V = x := ⟨_, rfl⟩
      have hwf : E2 = 0 → C2.Wf ∧ 1 ≤ C2.c0 := fun h => by
        rw [← hC2]
        obtain ⟨h1, h3, _⟩ := supD_yes O1.out.bytes (by rw [hE2, h])
        exact ⟨h1, by have := chk_c0 (supE_ok h3).2.1; omega⟩
      have hsl : slotOk st k = (decide (E2 = 0) && decide (C2.ep % 2 = k) && fitB st C2) := by unfold slotOk slotB; rw [HV.out, hE2, hC2]
      have hsb : slotB st k = C2 := by unfold slotB; rw [HV.out, hC2]
      rw [hE2, hC2]
      have HWF := Lib.hid hwf
      have HSL := Lib.hid hsl
      have HSB := Lib.hid hsb
      clear hb2 hE2 hC2 hwf hsl hsb ST1
      obtain ⟨e9, g0, g1, g2, g3, g4, g5, g6, g7, g8, gs, gn, gq⟩ := C2
      rw [show (⟨e9, g0, g1, g2, g3, g4, g5, g6, g7, g8, gs, gn, gq⟩ : Blk).val = .agg #[.int .u64 e9, .int .i64 g0, .int .i64 g1, .int .i64 g2, .int .i64 g3, .int .i64 g4, .int .i64 g5, .int .i64 g6, .int .i64 g7, .int .i64 g8, .int .i64 gs, .int .i64 gn, .int .u64 gq] from rfl]
      have hal := (Below.refl w2.heap.size w2).alloc (Nat.le_refl _) (.cells #[.int .u64 e9, .int .i64 g0, .int .i64 g1, .int .i64 g2, .int .i64 g3, .int .i64 g4, .int .i64 g5, .int .i64 g6, .int .i64 g7, .int .i64 g8, .int .i64 gs, .int .i64 gn, .int .u64 gq] 28)
      have ST3 := Lib.hid (ST2.out.next hal)
      have hxr := heap_alloc_new w2 (.cells #[.int .u64 e9, .int .i64 g0, .int .i64 g1, .int .i64 g2, .int .i64 g3, .int .i64 g4, .int .i64 g5, .int .i64 g6, .int .i64 g7, .int .i64 g8, .int .i64 gs, .int .i64 gn, .int .u64 gq] 28)
      obtain ⟨w3, hw3⟩ : ∃ w3, w2.alloc (.cells #[.int .u64 e9, .int .i64 g0, .int .i64 g1, .int .i64 g2, .int .i64 g3, .int .i64 g4, .int .i64 g5, .int .i64 g6, .int .i64 g7, .int .i64 g8, .int .i64 gs, .int .i64 gn, .int .u64 gq] 28) = w3 := ⟨_, rfl⟩
      obtain ⟨xb, hxb⟩ : ∃ xb, w2.heap.size = xb := ⟨_, rfl⟩
      rw [hw3] at ST3
      rw [hw3, hxb] at hxr
      have HW3 := Lib.hid hw3
      have HXB := Lib.hid hxb
      have XR3 := Lib.hid hxr
      have HXL : Hid (rb + 1 < xb) := by show _ < _; rw [← hxb]; exact (Array.getElem?_eq_some_iff.1 ST2.out.bst).1
      clear hal hxr hw3 hxb ST2
      by_cases h2 : E2 = 0
      rotate_left
      · have d2 : (E2 != 0) = true := by simpa using h2
        have HS1 : Hid (slotOk st k = false) := by show _ = _; rw [HSL.out, decide_eq_false h2]; rfl
        clear h2
        go_wp2_with fail
        rw [HW3.out]
        have HN : Hid (bestS st (k + 1) = SM ∧ bestB st (k + 1) = BB) := by
          show _ ∧ _
          rw [HNX.out.1, HNX.out.2, HS1.out]
          exact ⟨rfl, rfl⟩
        go_roundw
        case rel => exact ⟨k + 1, by omega, by go_num, by rw [HN.out.1], by rw [HN.out.2]; exact ST3, by rw [HN.out.1, HN.out.2]; exact HWB.out⟩
        case measure => simp [intOf] <;> omega
      subst h2
      have HWF1 := Lib.hid (HWF.out rfl)
      obtain ⟨he1, he2⟩ := HWF1.out.1.ep
      replace he1 : 0 ≤ e9 := he1
      replace he2 : e9 ≤ 18446744073709551615 := he2
      have hm2 : 0 ≤ e9 % 2 ∧ e9 % 2 ≤ 1 := by omega
      by_cases h4 : e9 % 2 = k
      rotate_left
      · have d4 : (e9 % 2 != (k : Int)) = true := by simpa using h4
        have HS1 : Hid (slotOk st k = false) := by show _ = _; rw [HSL.out, decide_eq_false (show ¬ (⟨e9, g0, g1, g2, g3, g4, g5, g6, g7, g8, gs, gn, gq⟩ : Blk).ep % 2 = k from h4), Bool.and_false]; rfl
        clear h4
        go_wp2_with (go_at_call 16; refine (slot_any e9 _ ⟨he1, he2⟩).mono ?_; rintro e w' ⟨rfl, rfl⟩)
        rw [HW3.out]
        have HN : Hid (bestS st (k + 1) = SM ∧ bestB st (k + 1) = BB) := by
          show _ ∧ _
          rw [HNX.out.1, HNX.out.2, HS1.out]
          exact ⟨rfl, rfl⟩
        go_roundw
        case rel => exact ⟨k + 1, by omega, by go_num, by rw [HN.out.1], by rw [HN.out.2]; exact ST3, by rw [HN.out.1, HN.out.2]; exact HWB.out⟩
        case measure => simp [intOf] <;> omega
      have d4 : (e9 % 2 != (k : Int)) = false := by simpa using h4
      have H4 := Lib.hid h4
      clear h4
      obtain ⟨FB, hFB⟩ : ∃ x, fitB st ⟨e9, g0, g1, g2, g3, g4, g5, g6, g7, g8, gs, gn, gq⟩ = x := ⟨_, rfl⟩
      have HFI := Lib.hid (fits_any Z d (readN st (k + 1)) ⟨e9, g0, g1, g2, g3, g4, g5, g6, g7, g8, gs, gn, gq⟩ w3 ST3.out.din)
      rw [show fitB (readN st (k + 1)) ⟨e9, g0, g1, g2, g3, g4, g5, g6, g7, g8, gs, gn, gq⟩ = FB from hFB] at HFI
      have HS2 : Hid (slotOk st k = FB) := by show _ = _; rw [HSL.out, hFB, decide_eq_true (show (⟨e9, g0, g1, g2, g3, g4, g5, g6, g7, g8, gs, gn, gq⟩ : Blk).ep % 2 = k from H4.out)]; rfl
      clear hFB
      go_wp2_with (go_at_call 16; refine (slot_any e9 _ ⟨he1, he2⟩).mono ?_; rintro e w' ⟨rfl, rfl⟩)
      rw [HW3.out]
      refine HFI.out.mono ?_
      rintro e w4 ⟨rfl, hb4⟩
      have ST4 := Lib.hid (ST3.out.next hb4)
      have XR4 := Lib.hid (row_keep XR3.out hb4)
      clear hb4 ST3
      cases FB with
      | false =>
        have HS1 := HS2
        go_wp2_with fail
        have HN : Hid (bestS st (k + 1) = SM ∧ bestB st (k + 1) = BB) := by
          show _ ∧ _
          rw [HNX.out.1, HNX.out.2, HS1.out]
          exact ⟨rfl, rfl⟩
        go_roundw
        case rel => exact ⟨k + 1, by omega, by go_num, by rw [HN.out.1], by rw [HN.out.2]; exact ST4, by rw [HN.out.1, HN.out.2]; exact HWB.out⟩
        case measure => simp [intOf] <;> omega
      | true =>
        rw [HXB.out]
        obtain ⟨r0, r1, r2, r3, r4, r5, r6, r7, r8, r9, r10, r11, r12⟩ := cells13 XR4.out
        cases SM with
        | false =>
          obtain ⟨q0, q1, q2, q3, q4, q5, q6, q7, q8, q9, q10, q11, q12⟩ := cells13 ST4.out.bst
          have hbf : ∀ i, w4.frozen? ⟨rb + 1, i, none⟩ = false := fun i => frozen_of_row w4 (rb + 1) i _ _ ST4.out.bst
          go_wp2_with fail
          have ST5 := Lib.hid (ST4.out.best (C := ⟨e9, g0, g1, g2, g3, g4, g5, g6, g7, g8, gs, gn, gq⟩) [(0, .int .u64 e9), (1, .int .i64 g0), (2, .int .i64 g1), (3, .int .i64 g2), (4, .int .i64 g3), (5, .int .i64 g4), (6, .int .i64 g5), (7, .int .i64 g6), (8, .int .i64 g7), (9, .int .i64 g8), (10, .int .i64 gs), (11, .int .i64 gn), (12, .int .u64 gq)] (by unfold Blk.row; exact fold13 _ _ _ _ _ _ _ _ _ _ _ _ _ _ _ _ _ _ _ _ _ _ _ _ _ _))
          have HN : Hid (bestS st (k + 1) = true ∧ bestB st (k + 1) = ⟨e9, g0, g1, g2, g3, g4, g5, g6, g7, g8, gs, gn, gq⟩) := by
            show _ ∧ _
            rw [HNX.out.1, HNX.out.2, HS2.out, HSB.out]
            exact ⟨rfl, rfl⟩
          clear r0 r1 r2 r3 r4 r5 r6 r7 r8 r9 r10 r11 r12 q0 q1 q2 q3 q4 q5 q6 q7 q8 q9 q10 q11 q12 hbf
          go_roundw
          case rel => exact ⟨k + 1, by omega, by go_num, by rw [HN.out.1], by rw [HN.out.2]; exact ST5, by rw [HN.out.2]; exact fun _ => HWF1.out⟩
          case measure => simp [intOf] <;> omega
        | true =>
          have HWB1 := Lib.hid (HWB.out rfl)
          obtain ⟨m0, n0, n1, n2, n3, n4, n5, n6, n7, n8, ns, nn, nq⟩ := BB
          obtain ⟨q0, q1, q2, q3, q4, q5, q6, q7, q8, q9, q10, q11, q12⟩ := cells13 ST4.out.bst
          have HNW := Lib.hid (newer_any ⟨e9, g0, g1, g2, g3, g4, g5, g6, g7, g8, gs, gn, gq⟩ ⟨m0, n0, n1, n2, n3, n4, n5, n6, n7, n8, ns, nn, nq⟩ w4)
          obtain ⟨D, hD⟩ : ∃ D : Bool, decide ((⟨m0, n0, n1, n2, n3, n4, n5, n6, n7, n8, ns, nn, nq⟩ : Blk).ep < (⟨e9, g0, g1, g2, g3, g4, g5, g6, g7, g8, gs, gn, gq⟩ : Blk).ep) = D := ⟨_, rfl⟩
          rw [hD] at HNW
          have HD := Lib.hid hD
          clear hD
          go_wp2_with fail
          refine HNW.out.mono ?_
          rintro e w5 ⟨rfl, hb5⟩
          have ST5 := Lib.hid (ST4.out.next hb5)
          have XR5 := Lib.hid (row_keep XR4.out hb5)
          clear hb5 r0 r1 r2 r3 r4 r5 r6 r7 r8 r9 r10 r11 r12 q0 q1 q2 q3 q4 q5 q6 q7 q8 q9 q10 q11 q12 ST4 XR4
          have HN1 : Hid (bestS st (k + 1) = true ∧ bestB st (k + 1) = if D = true then ⟨e9, g0, g1, g2, g3, g4, g5, g6, g7, g8, gs, gn, gq⟩ else ⟨m0, n0, n1, n2, n3, n4, n5, n6, n7, n8, ns, nn, nq⟩) := by
            show _ ∧ _
            rw [HNX.out.1, HNX.out.2, HS2.out, HSB.out, HD.out]
            exact ⟨rfl, by cases D <;> rfl⟩
          cases D with
          | true =>
            obtain ⟨r0, r1, r2, r3, r4, r5, r6, r7, r8, r9, r10, r11, r12⟩ := cells13 XR5.out
            obtain ⟨q0, q1, q2, q3, q4, q5, q6, q7, q8, q9, q10, q11, q12⟩ := cells13 ST5.out.bst
            have hbf : ∀ i, w5.frozen? ⟨rb + 1, i, none⟩ = false := fun i => frozen_of_row w5 (rb + 1) i _ _ ST5.out.bst
            go_wp2_with fail
            have ST6 := Lib.hid (ST5.out.best (C := ⟨e9, g0, g1, g2, g3, g4, g5, g6, g7, g8, gs, gn, gq⟩) [(0, .int .u64 e9), (1, .int .i64 g0), (2, .int .i64 g1), (3, .int .i64 g2), (4, .int .i64 g3), (5, .int .i64 g4), (6, .int .i64 g5), (7, .int .i64 g6), (8, .int .i64 g7), (9, .int .i64 g8), (10, .int .i64 gs), (11, .int .i64 gn), (12, .int .u64 gq)] (by unfold Blk.row; exact fold13 _ _ _ _ _ _ _ _ _ _ _ _ _ _ _ _ _ _ _ _ _ _ _ _ _ _))
            clear r0 r1 r2 r3 r4 r5 r6 r7 r8 r9 r10 r11 r12 q0 q1 q2 q3 q4 q5 q6 q7 q8 q9 q10 q11 q12 hbf
            go_roundw
            case rel => exact ⟨k + 1, by omega, by go_num, by rw [HN1.out.1], by rw [HN1.out.2]; exact ST6, by rw [HN1.out.2]; exact fun _ => HWF1.out⟩
            case measure => simp [intOf] <;> omega
          | false =>
            go_wp2_with fail
            go_roundw
            case rel => exact ⟨k + 1, by omega, by go_num, by rw [HN1.out.1], by rw [HN1.out.2]; exact ST5, by rw [HN1.out.2]; exact fun _ => HWB1.out⟩
            case measure => simp [intOf] <;> omega
    · obtain rfl : k = 2 := by omega
      cases SM with
      | false =>
        obtain ⟨r0, r1, r2, r3, r4, r5, r6, r7, r8, r9, r10, r11, r12⟩ := cells13 ST.out.res
        have hrf : ∀ i, wr.frozen? ⟨rb, i, none⟩ = false := fun i => frozen_of_row wr rb i _ _ ST.out.res
        go_wp2_with fail
        change bodyPost _ _ _ _ _ (sets wr rb [(0, .int .u64 0), (1, .int .i64 0), (2, .int .i64 0), (3, .int .i64 0), (4, .int .i64 0), (5, .int .i64 0), (6, .int .i64 0), (7, .int .i64 0), (8, .int .i64 0), (9, .int .i64 0), (10, .int .i64 0), (11, .int .i64 0), (12, .int .u64 0)])
        obtain ⟨hrow, hdin, htnd⟩ := ST.out.fin [(0, .int .u64 0), (1, .int .i64 0), (2, .int .i64 0), (3, .int .i64 0), (4, .int .i64 0), (5, .int .i64 0), (6, .int .i64 0), (7, .int .i64 0), (8, .int .i64 0), (9, .int .i64 0), (10, .int .i64 0), (11, .int .i64 0), (12, .int .u64 0)] (fold13 _ _ _ _ _ _ _ _ _ _ _ _ _ _ _ _ _ _ _ _ _ _ _ _ _ _)
        generalize sets wr rb [(0, .int .u64 0), (1, .int .i64 0), (2, .int .i64 0), (3, .int .i64 0), (4, .int .i64 0), (5, .int .i64 0), (6, .int .i64 0), (7, .int .i64 0), (8, .int .i64 0), (9, .int .i64 0), (10, .int .i64 0), (11, .int .i64 0), (12, .int .u64 0)] = w19 at *
        clear r0 r1 r2 r3 r4 r5 r6 r7 r8 r9 r10 r11 r12 hrf
        obtain ⟨r0, r1, r2, r3, r4, r5, r6, r7, r8, r9, r10, r11, r12⟩ := cells13 hrow
        refine bodyPost_ret (v := .tuple #[.agg #[.int .u64 0, .int .i64 0, .int .i64 0, .int .i64 0, .int .i64 0, .int .i64 0, .int .i64 0, .int .i64 0, .int .i64 0, .int .i64 0, .int .i64 0, .int .i64 0, .int .u64 0], .int .i64 20]) (by simp [results, Try.results22, go_sem, r0, r1, r2, r3, r4, r5, r6, r7, r8, r9, r10, r11, r12]) rfl ?_
        rw [HREs.out, HRBs.out, HSM.out]
        exact ⟨rfl, hdin, htnd⟩
      | true =>
        obtain ⟨hbw, hbc⟩ := HWB.out rfl
        obtain ⟨m0, n0, n1, n2, n3, n4, n5, n6, n7, n8, ns, nn, nq⟩ := BB
        replace hbc : 1 ≤ n0 := hbc
        have hn0 : (n0 == 0) = false := by rw [beq_eq_false_iff_ne]; omega
        have HK1 : Hid (∀ w1, Calls Try.prog 14 #[.agg #[.int .u64 m0, .int .i64 n0, .int .i64 n1, .int .i64 n2, .int .i64 n3, .int .i64 n4, .int .i64 n5, .int .i64 n6, .int .i64 n7, .int .i64 n8, .int .i64 ns, .int .i64 nn, .int .u64 nq]] w1 fun e w' => e = .returned (keyV (keyL ⟨m0, n0, n1, n2, n3, n4, n5, n6, n7, n8, ns, nn, nq⟩)) ∧ Below w1.heap.size w1 w') := fun w1 => key_any ⟨m0, n0, n1, n2, n3, n4, n5, n6, n7, n8, ns, nn, nq⟩ w1 hbw
        have HK2 : Hid (∀ w1, Calls Try.prog 14 #[.agg #[.int .u64 0, .int .i64 0, .int .i64 0, .int .i64 0, .int .i64 0, .int .i64 0, .int .i64 0, .int .i64 0, .int .i64 0, .int .i64 0, .int .i64 0, .int .i64 0, .int .u64 0]] w1 fun e w' => e = .returned (.agg #[.int .u8 0, .int .u8 0, .int .u8 0, .int .u8 0]) ∧ Below w1.heap.size w1 w') := fun w1 => key_any blk0 w1 blk0_wf
        obtain ⟨y0, y1, y2, y3, hky⟩ := key_four ⟨m0, n0, n1, n2, n3, n4, n5, n6, n7, n8, ns, nn, nq⟩
        rw [hky] at HK1
        replace HK1 : Hid (∀ w1, Calls Try.prog 14 #[.agg #[.int .u64 m0, .int .i64 n0, .int .i64 n1, .int .i64 n2, .int .i64 n3, .int .i64 n4, .int .i64 n5, .int .i64 n6, .int .i64 n7, .int .i64 n8, .int .i64 ns, .int .i64 nn, .int .u64 nq]] w1 fun e w' => e = .returned (.agg #[.int .u8 y0, .int .u8 y1, .int .u8 y2, .int .u8 y3]) ∧ Below w1.heap.size w1 w') := HK1
        clear hky hbw
        obtain ⟨q0, q1, q2, q3, q4, q5, q6, q7, q8, q9, q10, q11, q12⟩ := cells13 ST.out.bst
        go_wp2_with fail
        refine (HK1.out wr).mono ?_
        rintro e w1 ⟨rfl, hb1⟩
        have ST1 := Lib.hid (ST.out.next hb1)
        clear q0 q1 q2 q3 q4 q5 q6 q7 q8 q9 q10 q11 q12 hb1 ST
        go_wp2_with fail
        refine (HK2.out w1).mono ?_
        rintro e w2 ⟨rfl, hb2⟩
        have ST2 := Lib.hid (ST1.out.next hb2)
        clear hb2 ST1
        obtain ⟨q0, q1, q2, q3, q4, q5, q6, q7, q8, q9, q10, q11, q12⟩ := cells13 ST2.out.bst
        obtain ⟨r0, r1, r2, r3, r4, r5, r6, r7, r8, r9, r10, r11, r12⟩ := cells13 ST2.out.res
        have hrf : ∀ i, w2.frozen? ⟨rb, i, none⟩ = false := fun i => frozen_of_row w2 rb i _ _ ST2.out.res
        go_wp2_with fail
        rw [eq_four w2 y0 y1 y2 y3 0 0 0 0]
        simp only [Result.andThen_ok]
        generalize (y0 == 0 && (y1 == 0 && (y2 == 0 && y3 == 0))) = eq4
        cases eq4 with
        | false =>
          go_wp2_with fail
          change bodyPost _ _ _ _ _ (sets w2 rb [(0, .int .u64 m0), (1, .int .i64 n0), (2, .int .i64 n1), (3, .int .i64 n2), (4, .int .i64 n3), (5, .int .i64 n4), (6, .int .i64 n5), (7, .int .i64 n6), (8, .int .i64 n7), (9, .int .i64 n8), (10, .int .i64 ns), (11, .int .i64 nn), (12, .int .u64 nq)])
          obtain ⟨hrow, hdin, htnd⟩ := ST2.out.fin [(0, .int .u64 m0), (1, .int .i64 n0), (2, .int .i64 n1), (3, .int .i64 n2), (4, .int .i64 n3), (5, .int .i64 n4), (6, .int .i64 n5), (7, .int .i64 n6), (8, .int .i64 n7), (9, .int .i64 n8), (10, .int .i64 ns), (11, .int .i64 nn), (12, .int .u64 nq)] (fold13 _ _ _ _ _ _ _ _ _ _ _ _ _ _ _ _ _ _ _ _ _ _ _ _ _ _)
          generalize sets w2 rb [(0, .int .u64 m0), (1, .int .i64 n0), (2, .int .i64 n1), (3, .int .i64 n2), (4, .int .i64 n3), (5, .int .i64 n4), (6, .int .i64 n5), (7, .int .i64 n6), (8, .int .i64 n7), (9, .int .i64 n8), (10, .int .i64 ns), (11, .int .i64 nn), (12, .int .u64 nq)] = w19 at *
          clear r0 r1 r2 r3 r4 r5 r6 r7 r8 r9 r10 r11 r12 q0 q1 q2 q3 q4 q5 q6 q7 q8 q9 q10 q11 q12 hrf
          obtain ⟨r0, r1, r2, r3, r4, r5, r6, r7, r8, r9, r10, r11, r12⟩ := cells13 hrow
          refine bodyPost_ret (v := .tuple #[.agg #[.int .u64 m0, .int .i64 n0, .int .i64 n1, .int .i64 n2, .int .i64 n3, .int .i64 n4, .int .i64 n5, .int .i64 n6, .int .i64 n7, .int .i64 n8, .int .i64 ns, .int .i64 nn, .int .u64 nq], .int .i64 0]) (by simp [results, Try.results22, go_sem, r0, r1, r2, r3, r4, r5, r6, r7, r8, r9, r10, r11, r12]) rfl ?_
          rw [HREs.out, HRBs.out, HSM.out, if_pos rfl, if_pos rfl, HBB.out]
          exact ⟨rfl, hdin, htnd⟩
        | true =>
          go_wp2_with fail
          change bodyPost _ _ _ _ _ (sets w2 rb [(0, .int .u64 m0), (1, .int .i64 n0), (2, .int .i64 n1), (3, .int .i64 n2), (4, .int .i64 n3), (5, .int .i64 n4), (6, .int .i64 n5), (7, .int .i64 n6), (8, .int .i64 n7), (9, .int .i64 n8), (10, .int .i64 ns), (11, .int .i64 nn), (12, .int .u64 nq)])
          obtain ⟨hrow, hdin, htnd⟩ := ST2.out.fin [(0, .int .u64 m0), (1, .int .i64 n0), (2, .int .i64 n1), (3, .int .i64 n2), (4, .int .i64 n3), (5, .int .i64 n4), (6, .int .i64 n5), (7, .int .i64 n6), (8, .int .i64 n7), (9, .int .i64 n8), (10, .int .i64 ns), (11, .int .i64 nn), (12, .int .u64 nq)] (fold13 _ _ _ _ _ _ _ _ _ _ _ _ _ _ _ _ _ _ _ _ _ _ _ _ _ _)
          generalize sets w2 rb [(0, .int .u64 m0), (1, .int .i64 n0), (2, .int .i64 n1), (3, .int .i64 n2), (4, .int .i64 n3), (5, .int .i64 n4), (6, .int .i64 n5), (7, .int .i64 n6), (8, .int .i64 n7), (9, .int .i64 n8), (10, .int .i64 ns), (11, .int .i64 nn), (12, .int .u64 nq)] = w19 at *
          clear r0 r1 r2 r3 r4 r5 r6 r7 r8 r9 r10 r11 r12 q0 q1 q2 q3 q4 q5 q6 q7 q8 q9 q10 q11 q12 hrf
          obtain ⟨r0, r1, r2, r3, r4, r5, r6, r7, r8, r9, r10, r11, r12⟩ := cells13 hrow
          refine bodyPost_ret (v := .tuple #[.agg #[.int .u64 m0, .int .i64 n0, .int .i64 n1, .int .i64 n2, .int .i64 n3, .int .i64 n4, .int .i64 n5, .int .i64 n6, .int .i64 n7, .int .i64 n8, .int .i64 ns, .int .i64 nn, .int .u64 nq], .int .i64 0]) (by simp [results, Try.results22, go_sem, r0, r1, r2, r3, r4, r5, r6, r7, r8, r9, r10, r11, r12]) rfl ?_
          rw [HREs.out, HRBs.out, HSM.out, if_pos rfl, if_pos rfl, HBB.out]
          exact ⟨rfl, hdin, htnd⟩
set_option maxRecDepth 100000 in
theorem supread_any (Z : Nat → Prop) (d : Nat) (st : Dk) (w : World) (hD : DkIn w Z d st) (hn : 2 ≤ st.kept.length) (hrd : st.reads + 2 ≤ 4611686018427387904) :
    Calls Try.prog 22 #[.pointer (some ⟨d, 0, none⟩)] w fun e w' => e = .returned (.tuple #[(supRB st).val, .int .i64 (supRE st)]) ∧ DkIn w' Z d (supRS st) ∧ Tnd Z Z w w' := by
  cases ho : st.off with
  | false => exact supread_on Z d st w hD ho hn hrd
  | true =>
    have e1 : supRE st = 8 := by unfold supRE; rw [if_pos ho]
    have e2 : supRB st = blk0 := by unfold supRB; rw [if_pos ho]
    have e3 : supRS st = st := by unfold supRS; rw [if_pos ho]
    rw [e1, e2, e3]
    exact supread_off Z d st w hD ho hrd
end Go.Proofs.Ytcbnebcooiagmaa
namespace Go.Proofs.Ytcbnebcooiagmaa
open Go.RowKit
set_option linter.unusedSimpArgs false in
set_option linter.unusedVariables false in
set_option maxRecDepth 100000 in
theorem of_any (b : Blk) (w : World) : Calls Try.prog 11 #[b.val] w fun e w' => e = .returned b.val ∧ Below w.heap.size w w' := by
  obtain ⟨e0, x1, x2, x3, x4, x5, x6, x7, x8, x9, x10, x11, x12⟩ := b
  unfold Blk.val
  go_enter Try.func11, Try.ntmps11
  go_wp2_with fail
  refine bodyPost_ret (v := .agg #[.int .u64 e0, .int .i64 x1, .int .i64 x2, .int .i64 x3, .int .i64 x4, .int .i64 x5, .int .i64 x6, .int .i64 x7, .int .i64 x8, .int .i64 x9, .int .i64 x10, .int .i64 x11, .int .u64 x12]) (by simp [results, Try.results11, go_sem]) rfl ?_
  exact ⟨rfl, ((Below.refl _ _).alloc (Nat.le_refl _) _).alloc (by simp) _⟩
set_option linter.unusedSimpArgs false in
set_option linter.unusedVariables false in
set_option maxRecDepth 100000 in
theorem shape20_any (w : World) : Calls Try.prog 20 #[] w fun e w' => e = .returned (.agg #[.int .i64 40, .int .i64 128, .int .i64 4, .int .i64 2, .int .i64 16, .int .i64 4, .int .i64 2, .int .i64 2, .int .i64 4]) ∧ Below w.heap.size w w' := by
  go_enter Try.func20, Try.ntmps20
  go_wp2_with fail
  refine bodyPost_ret (v := .agg #[.int .i64 40, .int .i64 128, .int .i64 4, .int .i64 2, .int .i64 16, .int .i64 4, .int .i64 2, .int .i64 2, .int .i64 4]) (by simp [results, Try.results20, go_sem]) rfl ?_
  exact ⟨rfl, (Below.refl _ _).alloc (Nat.le_refl _) _⟩
/-- The disk when a block has been put into a slot, and nothing is pending. -/
def putK (st : Dk) (s : Int) (l : List Int) : Dk := { st with armed := if st.armed = 0 then 0 else st.armed - 1, kept := st.kept.set s.toNat l, writes := st.writes + 1 }
theorem wrote {st : Dk} {b : Blk} (hp : st.pend = []) (he : supE b = 0) (hf : fitB st b = true) (ho : st.off = false) (ha : st.armed ≠ 1) : supWE st b = 0 ∧ supWS st b = putK st (b.ep % 2) (supV b) := by
  unfold supWE supWS
  simp only [he, hf, ho, ha, ne_eq, not_true_eq_false, if_false, Bool.false_eq_true, Bool.true_eq_false]
  refine ⟨trivial, ?_⟩
  unfold flushS putS putK
  rw [hp]
  simp [settleK]
theorem secB_kept {st : Dk} (hp : st.pend = []) (i : Nat) : secB st i = (st.kept[i]?).getD [] := by
  unfold secB
  rw [hp]
  rfl
theorem slot_of {st : Dk} {i : Nat} {b : Blk} (hs : secB st i = supV b) (hw : b.Wf) (he : supE b = 0) (hf : fitB st b = true) (hi : b.ep % 2 = i) : slotOk st i = true ∧ slotB st i = b := by
  obtain ⟨h1, h2⟩ := sup_read hw he
  have e : slotB st i = b := by unfold slotB; rw [hs, h2]
  refine ⟨?_, e⟩
  unfold slotOk
  rw [e, hs, h1, hf, hi]
  simp
theorem supV_head {b : Blk} (h : supE b = 0) : ∃ r, supV b = 65 :: r := by
  unfold supV
  rw [if_pos h]
  unfold sealL supZ supOut supHead magicL
  exact ⟨_, rfl⟩
theorem zero_no (n : Nat) : supDE (List.replicate n 0) ≠ 0 := fun h => by
  obtain ⟨_, h2, h3⟩ := supD_yes (fun y hy => by rw [List.eq_of_mem_replicate hy]; decide) h
  obtain ⟨r, hr⟩ := supV_head h2
  rw [hr] at h3
  have : (65 : Int) ∈ List.replicate n 0 := by rw [← h3]; simp
  exact absurd (List.eq_of_mem_replicate this) (by decide)
theorem slot_zero {st : Dk} {i n : Nat} (hs : secB st i = List.replicate n 0) : slotOk st i = false := by
  unfold slotOk
  rw [hs, decide_eq_false (zero_no n)]
  rfl
theorem best2 (st : Dk) : bestS st 2 = (slotOk st 1 || slotOk st 0) ∧ bestB st 2 = if (slotOk st 1 && (!slotOk st 0 || decide ((slotB st 0).ep < (slotB st 1).ep))) = true then slotB st 1 else if slotOk st 0 = true then slotB st 0 else blk0 := by
  refine ⟨by simp [bestS], ?_⟩
  simp only [bestB, bestS, Bool.or_false, Bool.not_false, Bool.true_or, Bool.and_true]
  cases h0 : slotOk st 0 <;> simp
end Go.Proofs.Ytcbnebcooiagmaa
