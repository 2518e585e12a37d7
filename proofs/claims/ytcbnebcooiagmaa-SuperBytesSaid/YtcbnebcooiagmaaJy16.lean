/- Joined: disk: Write. disk: Bytes, Shape, Reads. disk: New, Arm. disk: the chapter's example. super: Decode at every sector; Fits; Write. -/
import Derived.Test.YtcbnebcooiagmaaJy15
import Derived.BigQuiet
import Derived.Deep.QuietTactic
import Derived.Test.YtcbnebcooiagmaaJy14
namespace Go.Proofs.Ytcbnebcooiagmaa
open Go.RowKit
theorem grownB {w w1 w2 : World} {h : Nat} (g : w.grownBy w1 (some h)) (b : Below w1.heap.size w1 w2) : w.grownBy w2 (some h) :=
  ⟨b.os.trans g.os, b.tape.trans g.tape, b.output.trans g.output, Nat.le_trans g.size b.size, fun k hk hne => by rw [b.block k (Nat.lt_of_lt_of_le hk g.size)]; exact g.block k hk hne⟩
theorem put_grown (w : World) (h i : Nat) (x : Value) : w.grownBy (w.setCell ⟨h, i, none⟩ x) (some h) :=
  ⟨rfl, rfl, rfl, by simp, fun k _ hk => heap_setCell_other w ⟨h, i, none⟩ k x (fun e => hk (by simp [e]))⟩
theorem row_other {w w' : World} {row : Option Nat} {k : Nat} {o : Obj} (ho : w.heap[k]? = some o) (hg : w.grownBy w' row) (hk : row ≠ some k) : w'.heap[k]? = some o := by
  rw [hg.block k (Array.getElem?_eq_some_iff.1 ho).1 (fun e => hk e.symm)]; exact ho
theorem RdAt.at0 {k : IntKind} {w w' : World} {a : Option Addr} {n c : Nat} {l : List Int} (h : RdAt k w a n c l) (e : w'.heap = w.heap) : RdAt k w' a n c l :=
  ⟨h.len, h.cap, h.max, fun i hi => by
    obtain ⟨b, o, e1, hc⟩ := h.cell i hi
    exact ⟨b, o, e1, by rw [← hc]; exact World.cell?_of_block (a := ⟨b, o + i, none⟩) (by rw [e])⟩, h.wf, h.void⟩
theorem RdAt.tnd {k : IntKind} {Z Z' : Nat → Prop} {w w' : World} {a : Option Addr} {n c : Nat} {l : List Int} (h : RdAt k w a n c l) (t : Tnd Z Z' w w') (hne : ∀ x, a = some x → ¬ Z x.block) : RdAt k w' a n c l :=
  ⟨h.len, h.cap, h.max, fun i hi => by
    obtain ⟨b, o, e, hc⟩ := h.cell i hi
    exact ⟨b, o, e, by rw [← hc]; exact World.cell?_of_block (a := ⟨b, o + i, none⟩) (t.block b (block_lt_of_cell hc) (hne _ e))⟩, h.wf, h.void⟩
set_option linter.unusedSimpArgs false in
set_option linter.unusedVariables false in
set_option maxRecDepth 100000 in
set_option maxHeartbeats 2000000 in
theorem write_put (Z : Nat → Prop) (d : Nat) (st : Dk) (s : Int) (a : Option Addr) (n c : Nat) (l : List Int) (w : World) (h : DkIn w Z d st) (hr : RdAt .u8 w a n c l) (hnz : ∀ x, a = some x → ¬ Z x.block) (hs1 : -9223372036854775808 ≤ s) (hs2 : s ≤ 9223372036854775807) (hfew : st.pend.length + 1 ≤ 1000000) (hwr : st.writes + 1 ≤ 4611686018427387904)
    (ho : st.off = false) (hf : fitW st s l = true) (ha1 : st.armed ≠ 1) :
    Calls Try.prog 29 #[.pointer (some ⟨d, 0, none⟩), .int .i64 s, .slice a n c] w fun e w' => e = .returned (.int .i64 0) ∧ ∃ Z', DkIn w' Z' d (putS st s l) ∧ Tnd Z Z' w w' := by
  have H := Lib.hid h
  have HO := Lib.hid ho
  have hi : inS st s = true := by
    have h1 : (inS st s && decide (l.length = st.size)) = true := hf
    simp only [Bool.and_eq_true] at h1
    exact h1.1
  have hns : n = st.size := by
    have h1 : (inS st s && decide (l.length = st.size)) = true := hf
    simp only [Bool.and_eq_true, decide_eq_true_eq] at h1
    rw [← hr.len]; exact h1.2
  have HI := Lib.hid hi
  have HF := Lib.hid hf
  obtain ⟨hz, kb, mb, pv, kv, vals, pvs, p⟩ := h
  obtain ⟨c0, c1, c2, c3, c4, c5, c6, c7, c8, cf⟩ := cellsD p.row
  have P := Lib.hid p
  have hn9 : n ≤ 1000000000 := by have := p.ok.size; omega
  have hnp := p.ok.n
  have HN := Lib.hid hn9
  have hwf : (Lit.int .i64 s).wf = true := by
    simp [Lit.wf, IntKind.min, IntKind.max, IntKind.signed, IntKind.bits]
    omega
  have HWF := Lib.hid hwf
  have HFEW : Hid (st.pend.length ≤ 2000000) := by show _ ≤ _; omega
  have hw0 := p.ok.writes
  have wr1 : IntKind.i64.wrap (st.writes + 1) = st.writes + 1 := by rw [IntKind.wrap_i64]; omega
  subst hns
  have ea : decide (st.armed = 1) = false := decide_eq_false ha1
  have HEA := Lib.hid ea
  have HR := Lib.hid hr
  clear ho hf hi p hwf ea hr ha1 hn9 hnp
  go_enter Try.func29, Try.ntmps29
  go_wp2_with fail
  refine (off_any Z d st w H.out).mono ?_
  rintro e w1 ⟨rfl, rfl⟩
  rw [HO.out]
  go_wp2_with fail
  refine (there_any Z d st s w H.out).mono ?_
  rintro e w2 ⟨rfl, rfl⟩
  rw [HI.out]
  go_wp2_with fail
  refine (goes_any Z d kb mb pv kv vals pvs st w P.out hz).mono ?_
  rintro e w2 ⟨rfl, hp2, ht2, hz2⟩
  rw [HEA.out]
  have hrd2 := HR.out.tnd ht2 hnz
  have P2 := Lib.hid hp2
  have T2 := Lib.hid ht2
  have HR2 := Lib.hid hrd2
  clear c0 c1 c2 c3 c4 c5 c6 c7 c8 cf ht2 hrd2
  obtain ⟨am, ham⟩ : ∃ am, (if st.armed = 0 then 0 else st.armed - 1) = am := ⟨_, rfl⟩
  have HAM := Lib.hid ham
  have hrow8 := hp2.row
  simp only [HO.out, ham] at hrow8
  have hmap8 : MapAt w2.drew mb (lastOf st.pend) := hp2.map.at rfl
  have hown8 := hp2.prow
  have hne := hp2.ne
  have hrm := hp2.rm
  have hdB2 : d < w2.heap.size := hz2 d (hp2.z d (.inl rfl))
  obtain ⟨pa, pc, hpv⟩ := owns_shape hown8
  have hpvB : ∀ g, pv.ownBlock = some g → g < w2.heap.size := fun g hg => hz2 g (hp2.z g (.inr (.inr (.inr hg))))
  have hpvd : pv.ownBlock ≠ some d := fun e => (hrm d e).1 rfl
  have hpvm : pv.ownBlock ≠ some mb := fun e => (hrm mb e).2.2 rfl
  replace hpv : pv = .slice pa st.pend.length pc := hpv
  subst hpv
  have hdB : ∀ x, some d = some x → x < w2.heap.size := fun x hx => by injection hx with hx; omega
  replace hrow8 : w2.drew.heap[d]? = _ := hrow8
  have hB8 : w2.grownBy w2.drew (some mb) := ⟨rfl, rfl, rfl, Nat.le_refl _, fun _ _ _ => rfl⟩
  clear hp2
  go_wp2_with fail
  refine' reg_order [eqV _, eqV _, eqV _, eqV _, eqV _, eqV _, eqV _, eqV _, eqV _, eqV _, eqV _, (fun _ w => MapAt w mb (fun t => if t = s then some ((st.pend.length : Nat) : Int) else lastOf st.pend t))] [(11, fun w w' => World.grownBy w w' (some mb))] [(3, fun w => w.heap[d]? = some (.cells #[.bool false, .int .i64 am, kv, .int .i64 st.size, .slice (some ⟨kb, 0, none⟩) st.kept.length st.kept.length, (.slice pa st.pend.length pc), .map (some mb), .int .i64 st.writes, .int .i64 st.reads] 69 (0, 0))), (9, fun w => w.heap[d]? = some (.cells #[.bool false, .int .i64 am, kv, .int .i64 st.size, .slice (some ⟨kb, 0, none⟩) st.kept.length st.kept.length, (.slice pa st.pend.length pc), .map (some mb), .int .i64 st.writes, .int .i64 st.reads] 69 (0, 0))), (11, fun w => MapAt w mb (lastOf st.pend)), (12, fun w => World.grownBy w2 w (some mb))] [38, 39, 40, 41, 42, 43, 44, 45, 46, 47, 48, 80] [[], [0], [1], [2], [], [4], [], [6], [7], [8], [9], [3, 5, 10]] [0, 1, 2, 3, 4, 5, 6, 7, 8, 9, 10, 11] 12 (by kernel_rfl) ⟨eqV_stays _, eqV_stays _, eqV_stays _, eqV_stays _, eqV_stays _, eqV_stays _, eqV_stays _, eqV_stays _, eqV_stays _, eqV_stays _, eqV_stays _, fun _ _ _ p b => p.at (b.block mb p.lt), trivial⟩ ⟨⟨.inl (eqV_stays _), .inl (eqV_stays _), .inl (eqV_stays _), .inl (eqV_stays _), .inl (eqV_stays _), .inl (eqV_stays _), .inl (eqV_stays _), .inl (eqV_stays _), .inl (eqV_stays _), .inl (eqV_stays _), .inl (eqV_stays _), .inr (.inr rfl), trivial⟩, trivial⟩ ⟨fun _ _ p b => row_keep p b, fun _ _ p b => row_keep p b, fun _ _ p b => p.at (b.block mb p.lt), fun _ _ p b => grownB p b, trivial⟩ ⟨⟨.inr (.inl (by kernel_rfl)), .inr (.inl (by kernel_rfl)), .inr (.inr rfl), .inl (fun _ _ p g => World.grownBy.trans p g), trivial⟩, trivial⟩ ⟨hrow8, hrow8, hmap8, hB8, trivial⟩ 69 rfl (by kernel_rfl) (by kernel_rfl) rfl rfl 12 rfl ?q1obl ?q1fin
  case q1obl =>
    refine And.intro ?q1o0 (And.intro ?q1o1 (And.intro ?q1o2 (And.intro ?q1o3 (And.intro ?q1o4 (And.intro ?q1o5 (And.intro ?q1o6 (And.intro ?q1o7 (And.intro ?q1o8 (And.intro ?q1o9 (And.intro ?q1o10 (And.intro ?q1o11 (True.intro))))))))))))
    case q1o0 =>
      intro w1 hI
      refine turn2_on (by rfl) ?_
      intro K hK
      go_simp
      refine hK _ _ ⟨rfl, Kept.refl _, ?_⟩
      show _ = _
      simp only [List.getD_cons_zero, List.getD_cons_succ, Array.getD_eq_getD_getElem?, List.getElem?_toArray, List.getElem?_cons_zero, List.getElem?_cons_succ, Option.getD_some]
      rfl
    case q1o1 =>
      intro w1 hI
      intro v0 h0
      change _ = _ at h0
      subst v0
      refine turn2_on (by rfl) ?_
      intro K hK
      simp only [List.getD_cons_zero, List.getD_cons_succ, List.setIfInBounds_toArray, List.set_cons_zero, List.set_cons_succ]
      go_simp
      refine hK _ _ ⟨rfl, Kept.refl _, ?_⟩
      show _ = _
      simp only [List.getD_cons_zero, List.getD_cons_succ, Array.getD_eq_getD_getElem?, List.getElem?_toArray, List.getElem?_cons_zero, List.getElem?_cons_succ, Option.getD_some]
      rfl
    case q1o2 =>
      intro w1 hI
      intro v1 h1
      change _ = _ at h1
      subst v1
      refine turn2_on (by rfl) ?_
      intro K hK
      simp only [List.getD_cons_zero, List.getD_cons_succ, List.setIfInBounds_toArray, List.set_cons_zero, List.set_cons_succ]
      go_simp
      refine hK _ _ ⟨rfl, Kept.refl _, ?_⟩
      show _ = _
      simp only [List.getD_cons_zero, List.getD_cons_succ, Array.getD_eq_getD_getElem?, List.getElem?_toArray, List.getElem?_cons_zero, List.getElem?_cons_succ, Option.getD_some]
      rfl
    case q1o3 =>
      intro w1 hI
      replace hI : (fun w => w.heap[d]? = some (.cells #[.bool false, .int .i64 am, kv, .int .i64 st.size, .slice (some ⟨kb, 0, none⟩) st.kept.length st.kept.length, (.slice pa st.pend.length pc), .map (some mb), .int .i64 st.writes, .int .i64 st.reads] 69 (0, 0))) w1 := hI
      intro v2 h2
      change _ = _ at h2
      subst v2
      refine turn2_on (by rfl) ?_
      intro K hK
      simp only [List.getD_cons_zero, List.getD_cons_succ, List.setIfInBounds_toArray, List.set_cons_zero, List.set_cons_succ]
      obtain ⟨c0, c1, c2, c3, c4, c5, c6, c7, c8, cf⟩ := cellsD hI
      go_simp
      refine hK _ _ ⟨rfl, Kept.refl _, ?_⟩
      show _ = _
      simp only [List.getD_cons_zero, List.getD_cons_succ, Array.getD_eq_getD_getElem?, List.getElem?_toArray, List.getElem?_cons_zero, List.getElem?_cons_succ, Option.getD_some]
      rfl
    case q1o4 =>
      intro w1 hI
      refine turn2_on (by rfl) ?_
      intro K hK
      go_simp
      refine hK _ _ ⟨rfl, Kept.refl _, ?_⟩
      show _ = _
      simp only [List.getD_cons_zero, List.getD_cons_succ, Array.getD_eq_getD_getElem?, List.getElem?_toArray, List.getElem?_cons_zero, List.getElem?_cons_succ, Option.getD_some]
      rfl
    case q1o5 =>
      intro w1 hI
      intro v4 h4
      change _ = _ at h4
      subst v4
      refine turn2_on (by rfl) ?_
      intro K hK
      simp only [List.getD_cons_zero, List.getD_cons_succ, List.setIfInBounds_toArray, List.set_cons_zero, List.set_cons_succ]
      go_simp
      refine hK _ _ ⟨rfl, Kept.refl _, ?_⟩
      show _ = _
      simp only [List.getD_cons_zero, List.getD_cons_succ, Array.getD_eq_getD_getElem?, List.getElem?_toArray, List.getElem?_cons_zero, List.getElem?_cons_succ, Option.getD_some]
      rfl
    case q1o6 =>
      intro w1 hI
      refine turn2_on (by rfl) ?_
      intro K hK
      go_simp
      refine hK _ _ ⟨rfl, Kept.refl _, ?_⟩
      show _ = _
      simp only [List.getD_cons_zero, List.getD_cons_succ, Array.getD_eq_getD_getElem?, List.getElem?_toArray, List.getElem?_cons_zero, List.getElem?_cons_succ, Option.getD_some]
      rfl
    case q1o7 =>
      intro w1 hI
      intro v6 h6
      change _ = _ at h6
      subst v6
      refine turn2_on (by rfl) ?_
      intro K hK
      simp only [List.getD_cons_zero, List.getD_cons_succ, List.setIfInBounds_toArray, List.set_cons_zero, List.set_cons_succ]
      go_simp
      refine hK _ _ ⟨rfl, Kept.refl _, ?_⟩
      show _ = _
      simp only [List.getD_cons_zero, List.getD_cons_succ, Array.getD_eq_getD_getElem?, List.getElem?_toArray, List.getElem?_cons_zero, List.getElem?_cons_succ, Option.getD_some]
      rfl
    case q1o8 =>
      intro w1 hI
      intro v7 h7
      change _ = _ at h7
      subst v7
      refine turn2_on (by rfl) ?_
      intro K hK
      simp only [List.getD_cons_zero, List.getD_cons_succ, List.setIfInBounds_toArray, List.set_cons_zero, List.set_cons_succ]
      go_simp
      refine hK _ _ ⟨rfl, Kept.refl _, ?_⟩
      show _ = _
      simp only [List.getD_cons_zero, List.getD_cons_succ, Array.getD_eq_getD_getElem?, List.getElem?_toArray, List.getElem?_cons_zero, List.getElem?_cons_succ, Option.getD_some]
      rfl
    case q1o9 =>
      intro w1 hI
      replace hI : (fun w => w.heap[d]? = some (.cells #[.bool false, .int .i64 am, kv, .int .i64 st.size, .slice (some ⟨kb, 0, none⟩) st.kept.length st.kept.length, (.slice pa st.pend.length pc), .map (some mb), .int .i64 st.writes, .int .i64 st.reads] 69 (0, 0))) w1 := hI
      intro v8 h8
      change _ = _ at h8
      subst v8
      refine turn2_on (by rfl) ?_
      intro K hK
      simp only [List.getD_cons_zero, List.getD_cons_succ, List.setIfInBounds_toArray, List.set_cons_zero, List.set_cons_succ]
      obtain ⟨c0, c1, c2, c3, c4, c5, c6, c7, c8, cf⟩ := cellsD hI
      go_simp
      refine hK _ _ ⟨rfl, Kept.refl _, ?_⟩
      show _ = _
      simp only [List.getD_cons_zero, List.getD_cons_succ, Array.getD_eq_getD_getElem?, List.getElem?_toArray, List.getElem?_cons_zero, List.getElem?_cons_succ, Option.getD_some]
      rfl
    case q1o10 =>
      intro w1 hI
      intro v9 h9
      change _ = _ at h9
      subst v9
      refine turn2_on (by rfl) ?_
      intro K hK
      simp only [List.getD_cons_zero, List.getD_cons_succ, List.setIfInBounds_toArray, List.set_cons_zero, List.set_cons_succ]
      go_simp
      refine hK _ _ ⟨rfl, Kept.refl _, ?_⟩
      show _ = _
      simp only [List.getD_cons_zero, List.getD_cons_succ, Array.getD_eq_getD_getElem?, List.getElem?_toArray, List.getElem?_cons_zero, List.getElem?_cons_succ, Option.getD_some]
      rfl
    case q1o11 =>
      intro w1 hI
      replace hI : (fun w => MapAt w mb (lastOf st.pend)) w1 := hI
      intro v3 h3
      change _ = _ at h3
      subst v3
      intro v5 h5
      change _ = _ at h5
      subst v5
      intro v10 h10
      change _ = _ at h10
      subst v10
      refine turn2_on (by rfl) ?_
      intro K hK
      simp only [List.getD_cons_zero, List.getD_cons_succ, List.setIfInBounds_toArray, List.set_cons_zero, List.set_cons_succ]
      obtain ⟨w3, hrun, hmp, hg⟩ := map_put hI s ((st.pend.length : Nat) : Int) HWF.out
      go_simp
      refine hK _ _ ⟨rfl, hg, ?_⟩
      exact hmp
  intro w1 hI
  replace hI : (fun w => World.grownBy w2 w (some mb)) w1 := hI
  intro v0 h0
  change _ = _ at h0
  subst v0
  intro v1 h1
  change _ = _ at h1
  subst v1
  intro v2 h2
  change _ = _ at h2
  subst v2
  intro v3 h3
  change _ = _ at h3
  subst v3
  intro v4 h4
  change _ = _ at h4
  subst v4
  intro v5 h5
  change _ = _ at h5
  subst v5
  intro v6 h6
  change _ = _ at h6
  subst v6
  intro v7 h7
  change _ = _ at h7
  subst v7
  intro v8 h8
  change _ = _ at h8
  subst v8
  intro v9 h9
  change _ = _ at h9
  subst v9
  intro v10 h10
  change _ = _ at h10
  subst v10
  intro v11 h11
  simp only [Given, List.getD_cons_zero, List.getD_cons_succ, List.setIfInBounds_toArray, List.set_cons_zero, List.set_cons_succ]
  obtain ⟨w3, hw3⟩ : ∃ w3, w1 = w3 := ⟨_, rfl⟩
  subst w1
  have hrow9 : w3.drew.heap[d]? = _ := show w3.heap[d]? = _ from row_other (show w2.heap[d]? = _ from hrow8) hI (fun e => hne.2.1 (Option.some.inj e).symm)
  have hrd9 : RdAt .u8 w3.drew a st.size c l := (HR2.out.grown hI (fun x hx e => hnz x hx (by rw [Option.some.inj e]; exact P2.out.z mb (.inr (.inr (.inl rfl)))))).at0 rfl
  have hsz9 : w2.heap.size ≤ w3.drew.heap.size := hI.size
  have hown9 : w3.drew.ownsRow 0 114 2 (.slice pa st.pend.length pc) st.pend.length (pendC st.pend pvs) := ownsRow_at hown8 (fun g hg => hI.block g (hpvB g hg) (fun e => hpvm (by rw [hg]; exact e)))
  have hB9 : Spared d (Value.ownBlock (.slice pa st.pend.length pc)) w3 w3.drew := ⟨rfl, rfl, rfl, Nat.le_refl _, fun _ _ _ _ => rfl⟩
  have HI3 := Lib.hid hI
  have HMAP := Lib.hid h11
  clear hI h11 hrow8 hmap8 hB8
  go_wp2_with fail
  refine' reg_order [eqV _, eqV _, eqV _, eqV _, eqV _, eqV _, eqV _, (PF7 w2.heap.size l), (PF8 w2.heap.size s l), (PF9 w2.heap.size s l), (PF10 w2.heap.size s l (.slice pa st.pend.length pc) (pendC st.pend pvs) (st.pend.length + 1)), eqV _, eqV _, (fun _ w => ∃ pv', w.heap[d]? = some (.cells #[.bool false, .int .i64 am, kv, .int .i64 st.size, .slice (some ⟨kb, 0, none⟩) st.kept.length st.kept.length, pv', .map (some mb), .int .i64 st.writes, .int .i64 st.reads] 69 (0, 0)) ∧ PF10 w2.heap.size s l (.slice pa st.pend.length pc) (pendC st.pend pvs) (st.pend.length + 1) pv' w)] [(10, fun w w' => World.grownBy w w' (Value.ownBlock (.slice pa st.pend.length pc))), (13, fun w w' => World.grownBy w w' (some d))] [(4, fun w => w.heap[d]? = some (.cells #[.bool false, .int .i64 am, kv, .int .i64 st.size, .slice (some ⟨kb, 0, none⟩) st.kept.length st.kept.length, (.slice pa st.pend.length pc), .map (some mb), .int .i64 st.writes, .int .i64 st.reads] 69 (0, 0))), (7, fun w => RdAt .u8 w a st.size c l ∧ w2.heap.size ≤ w.heap.size), (9, fun w => w2.heap.size ≤ w.heap.size), (10, fun w => World.ownsRow w 0 114 2 (.slice pa st.pend.length pc) st.pend.length (pendC st.pend pvs)), (13, fun w => w.heap[d]? = some (.cells #[.bool false, .int .i64 am, kv, .int .i64 st.size, .slice (some ⟨kb, 0, none⟩) st.kept.length st.kept.length, (.slice pa st.pend.length pc), .map (some mb), .int .i64 st.writes, .int .i64 st.reads] 69 (0, 0))), (14, fun w => Spared d (Value.ownBlock (.slice pa st.pend.length pc)) w3 w)] [49, 50, 51, 52, 53, 54, 55, 56, 57, 58, 59, 60, 61, 82] [[], [], [1], [2], [3], [], [], [6], [5, 7], [8], [4, 9], [0], [11], [10, 12]] [0, 1, 2, 3, 4, 5, 6, 7, 8, 9, 10, 11, 12, 13] 14 (by kernel_rfl) ⟨eqV_stays _, eqV_stays _, eqV_stays _, eqV_stays _, eqV_stays _, eqV_stays _, eqV_stays _, fun _ _ _ p b => PF7.below p b, fun _ _ _ p b => PF8.below p b, fun _ _ _ p b => PF9.below p b, fun _ _ _ p b => PF10.below p b, eqV_stays _, eqV_stays _, fun _ _ _ ⟨y, p, q⟩ b => ⟨y, row_keep p b, q.below b⟩, trivial⟩ ⟨⟨.inl (eqV_stays _), .inl (eqV_stays _), .inl (eqV_stays _), .inl (eqV_stays _), .inl (eqV_stays _), .inl (eqV_stays _), .inl (eqV_stays _), .inl (fun _ _ _ p g => PF7.grown p g hpvB), .inl (fun _ _ _ p g => PF8.grown p g hpvB), .inl (fun _ _ _ p g => PF9.grown p g hpvB), .inr (.inr rfl), .inl (eqV_stays _), .inl (eqV_stays _), .inr (.inl (by kernel_rfl)), trivial⟩, ⟨.inl (eqV_stays _), .inl (eqV_stays _), .inl (eqV_stays _), .inl (eqV_stays _), .inl (eqV_stays _), .inl (eqV_stays _), .inl (eqV_stays _), .inl (fun _ _ _ p g => PF7.grown p g hdB), .inl (fun _ _ _ p g => PF8.grown p g hdB), .inl (fun _ _ _ p g => PF9.grown p g hdB), .inl (fun _ _ _ p g => PF10.grown p g hdB2 hpvd), .inl (eqV_stays _), .inl (eqV_stays _), .inr (.inr rfl), trivial⟩, trivial⟩ ⟨fun _ _ p b => row_keep p b, fun _ _ p b => ⟨p.1.below b, Nat.le_trans p.2 b.size⟩, fun _ _ p b => Nat.le_trans p b.size, fun _ _ p b => ownsRow_at p (fun g hg => b.block g (World.ownsRow.lt p g hg).2), fun _ _ p b => row_keep p b, fun _ _ p b => p.kept b, trivial⟩ ⟨⟨.inr (.inl (by kernel_rfl)), .inr (.inl (by kernel_rfl)), .inr (.inl (by kernel_rfl)), .inr (.inr rfl), .inl (fun _ _ p g => row_other p g hpvd), .inl (fun _ _ p g => p.row g), trivial⟩, ⟨.inr (.inl (by kernel_rfl)), .inr (.inl (by kernel_rfl)), .inr (.inl (by kernel_rfl)), .inr (.inl (by kernel_rfl)), .inr (.inr rfl), .inl (fun _ _ p g => p.at g), trivial⟩, trivial⟩ ⟨hrow9, ⟨hrd9, hsz9⟩, hsz9, hown9, hrow9, hB9, trivial⟩ 69 rfl (by kernel_rfl) (by kernel_rfl) rfl rfl 14 rfl ?q2obl ?q2fin
  case q2obl =>
    refine And.intro ?q2o0 (And.intro ?q2o1 (And.intro ?q2o2 (And.intro ?q2o3 (And.intro ?q2o4 (And.intro ?q2o5 (And.intro ?q2o6 (And.intro ?q2o7 (And.intro ?q2o8 (And.intro ?q2o9 (And.intro ?q2o10 (And.intro ?q2o11 (And.intro ?q2o12 (And.intro ?q2o13 (True.intro))))))))))))))
    case q2o0 =>
      intro w1 hI
      refine turn2_on (by rfl) ?_
      intro K hK
      go_simp
      refine hK _ _ ⟨rfl, Kept.refl _, ?_⟩
      show _ = _
      simp only [List.getD_cons_zero, List.getD_cons_succ, Array.getD_eq_getD_getElem?, List.getElem?_toArray, List.getElem?_cons_zero, List.getElem?_cons_succ, Option.getD_some]
      rfl
    case q2o1 =>
      intro w1 hI
      refine turn2_on (by rfl) ?_
      intro K hK
      go_simp
      refine hK _ _ ⟨rfl, Kept.refl _, ?_⟩
      show _ = _
      simp only [List.getD_cons_zero, List.getD_cons_succ, Array.getD_eq_getD_getElem?, List.getElem?_toArray, List.getElem?_cons_zero, List.getElem?_cons_succ, Option.getD_some]
      rfl
    case q2o2 =>
      intro w1 hI
      intro v1 h1
      change _ = _ at h1
      subst v1
      refine turn2_on (by rfl) ?_
      intro K hK
      simp only [List.getD_cons_zero, List.getD_cons_succ, List.setIfInBounds_toArray, List.set_cons_zero, List.set_cons_succ]
      go_simp
      refine hK _ _ ⟨rfl, Kept.refl _, ?_⟩
      show _ = _
      simp only [List.getD_cons_zero, List.getD_cons_succ, Array.getD_eq_getD_getElem?, List.getElem?_toArray, List.getElem?_cons_zero, List.getElem?_cons_succ, Option.getD_some]
      rfl
    case q2o3 =>
      intro w1 hI
      intro v2 h2
      change _ = _ at h2
      subst v2
      refine turn2_on (by rfl) ?_
      intro K hK
      simp only [List.getD_cons_zero, List.getD_cons_succ, List.setIfInBounds_toArray, List.set_cons_zero, List.set_cons_succ]
      go_simp
      refine hK _ _ ⟨rfl, Kept.refl _, ?_⟩
      show _ = _
      simp only [List.getD_cons_zero, List.getD_cons_succ, Array.getD_eq_getD_getElem?, List.getElem?_toArray, List.getElem?_cons_zero, List.getElem?_cons_succ, Option.getD_some]
      rfl
    case q2o4 =>
      intro w1 hI
      replace hI : (fun w => w.heap[d]? = some (.cells #[.bool false, .int .i64 am, kv, .int .i64 st.size, .slice (some ⟨kb, 0, none⟩) st.kept.length st.kept.length, (.slice pa st.pend.length pc), .map (some mb), .int .i64 st.writes, .int .i64 st.reads] 69 (0, 0))) w1 := hI
      intro v3 h3
      change _ = _ at h3
      subst v3
      refine turn2_on (by rfl) ?_
      intro K hK
      simp only [List.getD_cons_zero, List.getD_cons_succ, List.setIfInBounds_toArray, List.set_cons_zero, List.set_cons_succ]
      obtain ⟨c0, c1, c2, c3, c4, c5, c6, c7, c8, cf⟩ := cellsD hI
      go_simp
      refine hK _ _ ⟨rfl, Kept.refl _, ?_⟩
      show _ = _
      simp only [List.getD_cons_zero, List.getD_cons_succ, Array.getD_eq_getD_getElem?, List.getElem?_toArray, List.getElem?_cons_zero, List.getElem?_cons_succ, Option.getD_some]
      rfl
    case q2o5 =>
      intro w1 hI
      refine turn2_on (by rfl) ?_
      intro K hK
      go_simp
      refine hK _ _ ⟨rfl, Kept.refl _, ?_⟩
      show _ = _
      simp only [List.getD_cons_zero, List.getD_cons_succ, Array.getD_eq_getD_getElem?, List.getElem?_toArray, List.getElem?_cons_zero, List.getElem?_cons_succ, Option.getD_some]
      rfl
    case q2o6 =>
      intro w1 hI
      refine turn2_on (by rfl) ?_
      intro K hK
      go_simp
      refine hK _ _ ⟨rfl, Kept.refl _, ?_⟩
      show _ = _
      simp only [List.getD_cons_zero, List.getD_cons_succ, Array.getD_eq_getD_getElem?, List.getElem?_toArray, List.getElem?_cons_zero, List.getElem?_cons_succ, Option.getD_some]
      rfl
    case q2o7 =>
      intro w1 hI
      replace hI : (fun w => RdAt .u8 w a st.size c l ∧ w2.heap.size ≤ w.heap.size) w1 := hI
      intro v6 h6
      change _ = _ at h6
      subst v6
      refine turn2_on (by rfl) ?_
      intro K hK
      simp only [List.getD_cons_zero, List.getD_cons_succ, List.setIfInBounds_toArray, List.set_cons_zero, List.set_cons_succ]
      obtain ⟨hI, hwz⟩ := hI
      go_simp
      refine Calls.mono (clone_any _ _ _ _ _ hI HN.out) ?_
      rintro e w9 ⟨v9, rfl, ho9, hb9⟩
      refine hK _ _ ⟨rfl, hb9, ?_⟩
      show PF7 _ _ _ _
      simp only [List.getD_cons_zero, List.getD_cons_succ, Array.getD_eq_getD_getElem?, List.getElem?_toArray, List.getElem?_cons_zero, List.getElem?_cons_succ, Option.getD_some]
      exact Owns.mono ho9 hwz
    case q2o8 =>
      intro w1 hI
      intro v5 h5
      change _ = _ at h5
      subst v5
      intro v7 h7
      obtain ⟨a7, c7, rfl⟩ := Owns.shape h7
      refine turn2_on (by rfl) ?_
      intro K hK
      simp only [List.getD_cons_zero, List.getD_cons_succ, List.setIfInBounds_toArray, List.set_cons_zero, List.set_cons_succ]
      go_simp
      refine hK _ _ ⟨rfl, Kept.refl _, ?_⟩
      show PF8 _ _ _ _ _
      simp only [List.getD_cons_zero, List.getD_cons_succ, Array.getD_eq_getD_getElem?, List.getElem?_toArray, List.getElem?_cons_zero, List.getElem?_cons_succ, Option.getD_some]
      exact ⟨_, rfl, h7⟩
    case q2o9 =>
      intro w1 hI
      replace hI : (fun w => w2.heap.size ≤ w.heap.size) w1 := hI
      intro v8 h8
      obtain ⟨vb8, rfl, h8⟩ := h8
      obtain ⟨a8, c8, rfl⟩ := Owns.shape h8
      refine turn2_on (by rfl) ?_
      intro K hK
      simp only [List.getD_cons_zero, List.getD_cons_succ, List.setIfInBounds_toArray, List.set_cons_zero, List.set_cons_succ]
      go_simp
      refine hK _ _ ⟨rfl, Below.alloc (Below.refl _ _) (Nat.le_refl _) _, ?_⟩
      show PF9 _ _ _ _ _
      simp only [List.getD_cons_zero, List.getD_cons_succ, Array.getD_eq_getD_getElem?, List.getElem?_toArray, List.getElem?_cons_zero, List.getElem?_cons_succ, Option.getD_some]
      exact ⟨w1.heap.size, _, rfl, hI, heap_alloc_new _ _, Owns.alloc h8 _⟩
    case q2o10 =>
      intro w1 hI
      replace hI : (fun w => World.ownsRow w 0 114 2 (.slice pa st.pend.length pc) st.pend.length (pendC st.pend pvs)) w1 := hI
      intro v4 h4
      change _ = _ at h4
      subst v4
      intro v9 h9
      refine turn2_on (by rfl) ?_
      intro K hK
      simp only [List.getD_cons_zero, List.getD_cons_succ, List.setIfInBounds_toArray, List.set_cons_zero, List.set_cons_succ]
      refine wp_app_write (v := v9) (pv := (.slice pa st.pend.length pc)) 59 rfl (.tmp 53) (.tmp 58) rfl rfl rfl (show PF9 w2.heap.size s l v9 w1 from h9) hI hpvB HFEW.out ?_
      intro v2 w9 hg9 hp9
      refine hK _ _ ⟨rfl, hg9, ?_⟩
      show PF10 _ _ _ _ _ _ _ _
      simp only [List.getD_cons_zero, List.getD_cons_succ, Array.getD_eq_getD_getElem?, List.getElem?_toArray, List.getElem?_cons_zero, List.getElem?_cons_succ, Option.getD_some]
      exact hp9
    case q2o11 =>
      intro w1 hI
      intro v0 h0
      change _ = _ at h0
      subst v0
      refine turn2_on (by rfl) ?_
      intro K hK
      simp only [List.getD_cons_zero, List.getD_cons_succ, List.setIfInBounds_toArray, List.set_cons_zero, List.set_cons_succ]
      go_simp
      refine hK _ _ ⟨rfl, Kept.refl _, ?_⟩
      show _ = _
      simp only [List.getD_cons_zero, List.getD_cons_succ, Array.getD_eq_getD_getElem?, List.getElem?_toArray, List.getElem?_cons_zero, List.getElem?_cons_succ, Option.getD_some]
      rfl
    case q2o12 =>
      intro w1 hI
      intro v11 h11
      change _ = _ at h11
      subst v11
      refine turn2_on (by rfl) ?_
      intro K hK
      simp only [List.getD_cons_zero, List.getD_cons_succ, List.setIfInBounds_toArray, List.set_cons_zero, List.set_cons_succ]
      go_simp
      refine hK _ _ ⟨rfl, Kept.refl _, ?_⟩
      show _ = _
      simp only [List.getD_cons_zero, List.getD_cons_succ, Array.getD_eq_getD_getElem?, List.getElem?_toArray, List.getElem?_cons_zero, List.getElem?_cons_succ, Option.getD_some]
      rfl
    case q2o13 =>
      intro w1 hI
      replace hI : (fun w => w.heap[d]? = some (.cells #[.bool false, .int .i64 am, kv, .int .i64 st.size, .slice (some ⟨kb, 0, none⟩) st.kept.length st.kept.length, (.slice pa st.pend.length pc), .map (some mb), .int .i64 st.writes, .int .i64 st.reads] 69 (0, 0))) w1 := hI
      intro v10 h10
      intro v12 h12
      change _ = _ at h12
      subst v12
      refine turn2_on (by rfl) ?_
      intro K hK
      simp only [List.getD_cons_zero, List.getD_cons_succ, List.setIfInBounds_toArray, List.set_cons_zero, List.set_cons_succ]
      obtain ⟨c0, c1, c2, c3, c4, c5, c6, c7, c8, cf⟩ := cellsD hI
      have hsh : ∃ a c, v10 = .slice a (st.pend.length + 1) c := by obtain ⟨_, h, _⟩ := h10; exact owns_shape h
      obtain ⟨a10, c10, rfl⟩ := hsh
      go_simp
      refine hK _ _ ⟨rfl, put_grown _ _ _ _, ?_⟩
      exact ⟨_, by rw [heap_setCell_same _ d 5 _ _ _ hI]; simp, PF10.grown h10 (put_grown _ _ _ _) hdB2 hpvd⟩
  intro w1 hI
  replace hI : (fun w => Spared d (Value.ownBlock (.slice pa st.pend.length pc)) w3 w) w1 := hI
  intro v0 h0
  change _ = _ at h0
  subst v0
  intro v1 h1
  change _ = _ at h1
  subst v1
  intro v2 h2
  change _ = _ at h2
  subst v2
  intro v3 h3
  change _ = _ at h3
  subst v3
  intro v4 h4
  change _ = _ at h4
  subst v4
  intro v5 h5
  change _ = _ at h5
  subst v5
  intro v6 h6
  change _ = _ at h6
  subst v6
  intro v7 h7
  obtain ⟨a7, c7, rfl⟩ := Owns.shape h7
  intro v8 h8
  obtain ⟨vb8, rfl, h8⟩ := h8
  obtain ⟨a8, c8, rfl⟩ := Owns.shape h8
  intro v9 h9
  intro v10 h10
  intro v11 h11
  change _ = _ at h11
  subst v11
  intro v12 h12
  change _ = _ at h12
  subst v12
  intro v13 h13
  simp only [Given, List.getD_cons_zero, List.getD_cons_succ, List.setIfInBounds_toArray, List.set_cons_zero, List.set_cons_succ]
  obtain ⟨pv', hrow4, hpf⟩ := h13
  obtain ⟨c0, c1, c2, c3, c4, c5, c6, c7, c8, cf⟩ := cellsD hrow4
  have HROW4 := Lib.hid hrow4
  have HPF := Lib.hid hpf
  have HSP := Lib.hid hI
  clear hrow4 hpf hI
  go_wp2_with fail
  go_ret
  have hm4 : MapAt (w1.setCell ⟨d, 7, none⟩ (.int .i64 (st.writes + 1))) mb (fun t => if t = s then some ((st.pend.length : Nat) : Int) else lastOf st.pend t) := HMAP.out.at (by
    rw [heap_setCell_other w1 ⟨d, 7, none⟩ mb _ (fun e => hne.2.1 e.symm)]
    exact HSP.out.block mb HMAP.out.lt (fun e => hne.2.1 e.symm) (fun e => hpvm e.symm))
  have hput := P2.out.put (w5 := w1.setCell ⟨d, 7, none⟩ (.int .i64 (st.writes + 1))) (pv' := pv') hz2 s l HF.out (fun k hk h1 h2 h3 => by
    rw [heap_setCell_other w1 ⟨d, 7, none⟩ k _ h1, HSP.out.block k (Nat.lt_of_lt_of_le hk HI3.out.size) h1 h3]
    exact HI3.out.block k hk (fun e => h2 (Option.some.inj e))) ⟨HSP.out.os.trans HI3.out.os, HSP.out.tape.trans HI3.out.tape, HSP.out.output.trans HI3.out.output⟩ (by simpa using Nat.le_trans HI3.out.size HSP.out.size) (by
    rw [heap_setCell_same w1 d 7 _ _ _ HROW4.out]
    simp only [HO.out, ham]
    simp) hm4 (PF10.grown HPF.out (put_grown _ _ _ _) hdB2 hpvd) hfew hwr
  obtain ⟨Z', hin, ht5⟩ := hput
  exact ⟨rfl, Z', hin, T2.out.trans ht5⟩
set_option linter.unusedSimpArgs false in
set_option linter.unusedVariables false in
set_option maxRecDepth 100000 in
set_option maxHeartbeats 2000000 in
theorem write_cut (Z : Nat → Prop) (d : Nat) (st : Dk) (s : Int) (a : Option Addr) (n c : Nat) (l : List Int) (w : World) (h : DkIn w Z d st) (hr : RdAt .u8 w a n c l)
    (ho : st.off = false) (hf : fitW st s l = true) (ha1 : st.armed = 1) :
    Calls Try.prog 29 #[.pointer (some ⟨d, 0, none⟩), .int .i64 s, .slice a n c] w fun e w' => e = .returned (.int .i64 8) ∧ DkIn w' Z d (cutS st st.keep) ∧ Tnd Z Z w w' := by
  have H := Lib.hid h
  have HO := Lib.hid ho
  have hi : inS st s = true := by
    have h1 : (inS st s && decide (l.length = st.size)) = true := hf
    simp only [Bool.and_eq_true] at h1
    exact h1.1
  have hns : n = st.size := by
    have h1 : (inS st s && decide (l.length = st.size)) = true := hf
    simp only [Bool.and_eq_true, decide_eq_true_eq] at h1
    rw [← hr.len]; exact h1.2
  have HI := Lib.hid hi
  obtain ⟨hz, kb, mb, pv, kv, vals, pvs, p⟩ := h
  obtain ⟨c0, c1, c2, c3, c4, c5, c6, c7, c8, cf⟩ := cellsD p.row
  have P := Lib.hid p
  subst hns
  have ea : decide (st.armed = 1) = true := decide_eq_true ha1
  have HEA := Lib.hid ea
  clear ho hf hi p ea hr ha1
  go_enter Try.func29, Try.ntmps29
  go_wp2_with fail
  refine (off_any Z d st w H.out).mono ?_
  rintro e w1 ⟨rfl, rfl⟩
  rw [HO.out]
  go_wp2_with fail
  refine (there_any Z d st s w H.out).mono ?_
  rintro e w2 ⟨rfl, rfl⟩
  rw [HI.out]
  go_wp2_with fail
  refine (goes_any Z d kb mb pv kv vals pvs st w P.out hz).mono ?_
  rintro e w2 ⟨rfl, hp2, ht2, hz2⟩
  rw [HEA.out]
  obtain ⟨ka, kn, kc, hkv, hkr, hkq⟩ := hp2.keep
  have P2 := Lib.hid hp2
  have T2 := Lib.hid ht2
  have HKR := Lib.hid hkr
  have HKQ := Lib.hid hkq
  subst hkv
  clear c0 c1 c2 c3 c4 c5 c6 c7 c8 cf ht2 hkr hkq
  obtain ⟨c0, c1, c2, c3, c4, c5, c6, c7, c8, cf⟩ := cellsD hp2.row
  clear hp2
  go_wp2_with fail
  refine (cutP Z d kb mb pv _ vals pvs _ w2 P2.out hz2 ka kn kc st.keep HKR.out (fun x h1 h2 => ⟨hz2 _ (HKQ.out x h1 h2).2, (HKQ.out x h1 h2).1⟩)).mono ?_
  rintro e w3 ⟨rfl, hd3, ht3⟩
  have HD3 := Lib.hid hd3
  have HT3 := Lib.hid ht3
  clear hd3 ht3 c0 c1 c2 c3 c4 c5 c6 c7 c8 cf
  go_wp2_with fail
  go_ret
  exact ⟨rfl, HD3.out, T2.out.trans HT3.out⟩
set_option linter.unusedSimpArgs false in
set_option linter.unusedVariables false in
set_option maxRecDepth 100000 in
set_option maxHeartbeats 2000000 in
theorem write_any (Z : Nat → Prop) (d : Nat) (st : Dk) (s : Int) (a : Option Addr) (n c : Nat) (l : List Int) (w : World) (h : DkIn w Z d st) (hr : RdAt .u8 w a n c l) (hnz : ∀ x, a = some x → ¬ Z x.block) (hs1 : -9223372036854775808 ≤ s) (hs2 : s ≤ 9223372036854775807) (hfew : st.pend.length + 1 ≤ 1000000) (hwr : st.writes + 1 ≤ 4611686018427387904) :
    Calls Try.prog 29 #[.pointer (some ⟨d, 0, none⟩), .int .i64 s, .slice a n c] w fun e w' => e = .returned (.int .i64 (wrE st s l)) ∧ ∃ Z', DkIn w' Z' d (wrS st s l) ∧ Tnd Z Z' w w' := by
  have H := Lib.hid h
  cases ho : st.off with
  | true =>
    have e1 : wrE st s l = 8 := by unfold wrE; rw [ho]; rfl
    have e2 : wrS st s l = st := by unfold wrS; rw [ho]; rfl
    rw [e1, e2]
    have HO := Lib.hid ho
    clear ho h e1 e2 hr
    go_enter Try.func29, Try.ntmps29
    go_wp2_with fail
    refine (off_any Z d st w H.out).mono ?_
    rintro e w1 ⟨rfl, rfl⟩
    rw [HO.out]
    go_wp2_with fail
    go_ret
    exact ⟨rfl, Z, H.out, Tnd.refl _ _⟩
  | false =>
    have hlen := hr.len
    cases hi : inS st s with
    | false =>
      have hf : fitW st s l = false := by
        show (inS st s && _) = false
        rw [hi]; rfl
      have HI := Lib.hid hi
      have e1 : wrE st s l = 1 := by unfold wrE; rw [ho, hf]; rfl
      have e2 : wrS st s l = st := by unfold wrS; rw [ho, hf]; rfl
      rw [e1, e2]
      have HO := Lib.hid ho
      clear ho hf e1 e2 hi hr h hlen
      go_enter Try.func29, Try.ntmps29
      go_wp2_with fail
      refine (off_any Z d st w H.out).mono ?_
      rintro e w1 ⟨rfl, rfl⟩
      rw [HO.out]
      go_wp2_with fail
      refine (there_any Z d st s w H.out).mono ?_
      rintro e w2 ⟨rfl, rfl⟩
      rw [HI.out]
      go_wp2_with fail
      go_ret
      exact ⟨rfl, Z, H.out, Tnd.refl _ _⟩
    | true =>
      have HI := Lib.hid hi
      by_cases hns : n = st.size
      · have hf : fitW st s l = true := by
          show (inS st s && decide (l.length = st.size)) = true
          rw [hi, hlen, decide_eq_true hns]; rfl
        by_cases ha : st.armed = 1
        · have e1 : wrE st s l = 8 := by unfold wrE; rw [ho, hf, ha]; rfl
          have e2 : wrS st s l = cutS st st.keep := by unfold wrS; rw [ho, hf, ha]; rfl
          rw [e1, e2]
          exact (write_cut Z d st s a n c l w h hr ho hf ha).mono fun e w' ⟨x, y, z⟩ => ⟨x, Z, y, z⟩
        · have e1 : wrE st s l = 0 := by unfold wrE; rw [ho, hf]; simp [ha]
          have e2 : wrS st s l = putS st s l := by unfold wrS; rw [ho, hf]; simp [ha]
          rw [e1, e2]
          exact write_put Z d st s a n c l w h hr hnz hs1 hs2 hfew hwr ho hf ha
      · have hf : fitW st s l = false := by
          show (inS st s && decide (l.length = st.size)) = false
          rw [hi, hlen, decide_eq_false hns]; rfl
        have e1 : wrE st s l = 1 := by unfold wrE; rw [ho, hf]; rfl
        have e2 : wrS st s l = st := by unfold wrS; rw [ho, hf]; rfl
        rw [e1, e2]
        have HO := Lib.hid ho
        have d9 : decide ((n : Int) = st.size) = false := decide_eq_false (by omega)
        obtain ⟨hz, kb, mb, pv, kv, vals, pvs, p⟩ := h
        obtain ⟨c0, c1, c2, c3, c4, c5, c6, c7, c8, cf⟩ := cellsD p.row
        clear p ho hf e1 e2 hi hr hlen
        go_enter Try.func29, Try.ntmps29
        go_wp2_with fail
        refine (off_any Z d st w H.out).mono ?_
        rintro e w1 ⟨rfl, rfl⟩
        rw [HO.out]
        go_wp2_with fail
        refine (there_any Z d st s w H.out).mono ?_
        rintro e w2 ⟨rfl, rfl⟩
        rw [HI.out]
        go_wp2_with fail
        go_ret
        exact ⟨rfl, Z, H.out, Tnd.refl _ _⟩
end Go.Proofs.Ytcbnebcooiagmaa
namespace Go.Proofs.Ytcbnebcooiagmaa
open Go.RowKit
set_option linter.unusedSimpArgs false in
set_option linter.unusedVariables false in
set_option maxRecDepth 100000 in
set_option maxHeartbeats 2000000 in
theorem shape_any (Z : Nat → Prop) (d : Nat) (st : Dk) (w : World) (h : DkIn w Z d st) :
    Calls Try.prog 97 #[.pointer (some ⟨d, 0, none⟩)] w fun e w' => e = .returned (.tuple #[.int .i64 st.kept.length, .int .i64 st.size]) ∧ Below w.heap.size w w' := by
  obtain ⟨hz, kb, mb, pv, kv, vals, pvs, p⟩ := h
  obtain ⟨c0, c1, c2, c3, c4, c5, c6, c7, c8, cf⟩ := cellsD p.row
  clear p
  go_enter Try.func97, Try.ntmps97
  go_wp2_with fail
  go_quiet (fail)
  go_wp2_with fail
  go_ret2
  exact ⟨rfl, ⟨rfl, rfl, rfl, Nat.le_refl _, fun _ _ => rfl⟩⟩
end Go.Proofs.Ytcbnebcooiagmaa
namespace Go.Proofs.Ytcbnebcooiagmaa
open Go.RowKit
set_option maxRecDepth 100000 in
theorem secI : (Try.prog.info? 29).map (fun i => (i.zero, i.size, i.bytes)) = some (some (.slice none 0 0), 1, 24) := by kernel_rfl
set_option maxRecDepth 100000 in
theorem mk_secs (n : Nat) (hn : n ≤ 1000000) (w : World) : (Instr.makeSlice 65 (.int .i64 (n : Int)) (.int .i64 (n : Int))).run Try.prog w = .ok (.slice (some ⟨w.heap.size, 0, none⟩) n n) (w.alloc (.cells (List.replicate n (.slice none 0 0)).toArray 29)) := by
  obtain ⟨i, hi, hz, hs, hb⟩ := info_parts secI
  have hr := run_make (P := Try.prog) w 65 29 i (.slice none 0 0) secT hi hz .i64 .i64 n n (by omega) (Int.le_refl _) (by rw [hb]; omega) (by omega)
  rw [hr, hs, Int.toNat_natCast, Nat.mul_one]
  congr 4
  rw [show (Value.slice none 0 0).cells = #[.slice none 0 0] from rfl, ← toList_madeCells_one]
def rightB (n size : Int) : Bool := decide (1 ≤ n) && decide (n ≤ 65536) && decide (64 ≤ size) && decide (size ≤ 4096)
def dk0 (n size : Nat) : Dk := ⟨false, 0, [], size, List.replicate n (List.replicate size 0), [], 0, 0⟩
set_option linter.unusedSimpArgs false in
set_option linter.unusedVariables false in
set_option maxRecDepth 100000 in
set_option maxHeartbeats 2000000 in
theorem right_any (n size : Int) (w : World) : Calls Try.prog 60 #[.int .i64 n, .int .i64 size] w fun e w' => e = .returned (.bool (rightB n size)) ∧ w = w' := by
  have hE : rightB n size = (decide (1 ≤ n) && decide (n ≤ 65536) && decide (64 ≤ size) && decide (size ≤ 4096)) := rfl
  rw [hE]
  clear hE
  have key : ∀ b1 b2 b3 b4 : Bool, decide (1 ≤ n) = b1 → decide (n ≤ 65536) = b2 → decide (64 ≤ size) = b3 → decide (size ≤ 4096) = b4 → Calls Try.prog 60 #[.int .i64 n, .int .i64 size] w fun e w' => e = .returned (.bool (b1 && b2 && b3 && b4)) ∧ w = w' := by
    intro b1 b2 b3 b4 h1 h2 h3 h4
    cases b1 <;> cases b2 <;> cases b3 <;> cases b4
    all_goals
      go_enter Try.func60, Try.ntmps60
      go_wp2
      go_ret
      exact ⟨rfl, rfl⟩
  exact key _ _ _ _ rfl rfl rfl rfl
set_option maxRecDepth 100000 in
theorem new_no (n size : Int) (w : World) (h : rightB n size = false) : Calls Try.prog 19 #[.int .i64 n, .int .i64 size] w fun e w' => e = .returned (.tuple #[.pointer none, .int .i64 1]) ∧ w = w' := by
  go_enter Try.func19, Try.ntmps19
  go_wp2_with fail
  refine (right_any _ _ _).mono ?_
  rintro e w1 ⟨rfl, rfl⟩
  rw [h]
  go_wp2_with fail
  go_ret2
  exact ⟨rfl, rfl⟩
theorem dk0_ok (n size : Nat) (h : rightB n size = true) : DkOk (dk0 n size) := by
  unfold rightB at h
  simp only [Bool.and_eq_true, decide_eq_true_eq] at h
  refine ⟨⟨by show 64 ≤ size; omega, by show size ≤ 4096; omega⟩, ⟨?_, ?_⟩, fun l hl => ?_, (fun _ h => by cases h), ⟨(show (0:Int) ≤ 0 by decide), (show (0:Int) ≤ 9223372036854775807 by decide)⟩, Nat.zero_le _, ⟨(show (0:Int) ≤ 0 by decide), (show (0:Int) ≤ 4611686018427387904 by decide)⟩, ⟨(show (0:Int) ≤ 0 by decide), (show (0:Int) ≤ 4611686018427387904 by decide)⟩⟩
  · show 1 ≤ (List.replicate n _).length
    rw [List.length_replicate]; omega
  · show (List.replicate n _).length ≤ 65536
    rw [List.length_replicate]; omega
  · rw [List.eq_of_mem_replicate (show l ∈ List.replicate n _ from hl), List.length_replicate]
    rfl
theorem dk0_at (n size : Nat) (w : World) (h : rightB n size = true) (kb mb d : Nat) (hkb : kb < w.heap.size) (hmb : mb < w.heap.size) (hd : d < w.heap.size) (B : Nat) (hB : B ≤ kb ∧ B ≤ mb ∧ B ≤ d) (hne : d ≠ kb ∧ d ≠ mb ∧ kb ≠ mb)
    (hk : w.heap[kb]? = some (.cells (List.replicate n (.slice none 0 0)).toArray 29 (0, 0))) (hm : MapAt w mb (fun _ => none))
    (hr : w.heap[d]? = some (.cells #[.bool false, .int .i64 0, .slice none 0 0, .int .i64 size, .slice (some ⟨kb, 0, none⟩) n n, .slice none 0 0, .map (some mb), .int .i64 0, .int .i64 0] 69 (0, 0))) :
    DkIn w (fun k => B ≤ k ∧ k < w.heap.size) d (dk0 n size) := by
  refine ⟨fun k hk => hk.2, kb, mb, .slice none 0 0, .slice none 0 0, List.replicate n (.slice none 0 0), [], ?_, hk, ?_, World.ownsRow_nil _ _ _ _, All2.nil _, hm.congr (fun _ => rfl), ⟨none, 0, 0, rfl, ⟨rfl, Nat.le_refl _, by unfold maxLen; omega, fun i hi => by omega, fun _ => rfl⟩, fun q hq => by cases hq⟩, hne, (fun g hg => by cases hg), fun b hb => ?_, dk0_ok n size h⟩
  · rw [hr]
    show _ = some (Obj.cells #[_, _, _, _, .slice _ (List.replicate n _).length (List.replicate n _).length, _, _, _, _] _ _)
    rw [List.length_replicate]
    rfl
  · refine ⟨by show _ = (List.replicate n _).length; simp, fun i a b ha hb => ?_⟩
    have hb' : (List.replicate n (List.replicate size (0 : Int)))[i]? = some b := hb
    rw [List.getElem?_replicate] at ha hb'
    by_cases hi : i < n
    · rw [if_pos hi] at ha hb'
      injection ha with ha
      injection hb' with hb'
      exact .inl ⟨ha.symm, hb'.symm⟩
    · rw [if_neg hi] at ha
      cases ha
  · rcases hb with hb | hb | hb | hb
    · subst hb; exact ⟨hB.2.2, hd⟩
    · subst hb; exact ⟨hB.1, hkb⟩
    · subst hb; exact ⟨hB.2.1, hmb⟩
    · cases hb
set_option linter.unusedSimpArgs false in
set_option linter.unusedVariables false in
set_option maxRecDepth 100000 in
set_option maxHeartbeats 2000000 in
theorem new_any (n size : Nat) (w : World) (h : rightB n size = true) : Calls Try.prog 19 #[.int .i64 n, .int .i64 size] w fun e w' => ∃ d Z, e = .returned (.tuple #[.pointer (some ⟨d, 0, none⟩), .int .i64 0]) ∧ DkIn w' Z d (dk0 n size) ∧ (∀ k, Z k → w.heap.size ≤ k) ∧ Below w.heap.size w w' := by
  have hn : n ≤ 1000000 := by
    unfold rightB at h
    simp only [Bool.and_eq_true, decide_eq_true_eq] at h
    omega
  have hmk := mk_secs n hn
  have hmm := @run_makeMap Try.prog
  have H := Lib.hid h
  clear h
  go_enter Try.func19, Try.ntmps19
  go_wp2_with fail
  refine (right_any _ _ _).mono ?_
  rintro e w1 ⟨rfl, rfl⟩
  rw [H.out]
  go_wp2_with fail
  go_ret2
  generalize hA : (w.alloc (.cells (Array.replicate n (.slice none 0 0)) 29)) = wA
  have hsA : wA.heap.size = w.heap.size + 1 := by rw [← hA]; simp
  have hbA : Below w.heap.size w wA := by rw [← hA]; exact (Below.refl _ _).alloc (Nat.le_refl _) _
  have hkA : wA.heap[w.heap.size]? = some (.cells (List.replicate n (.slice none 0 0)).toArray 29 (0, 0)) := by
    rw [← hA, List.toArray_replicate]; exact heap_alloc_new _ _
  generalize hB : wA.alloc (.map #[] 0) = wB
  have hsB : wB.heap.size = w.heap.size + 1 + 1 := by rw [← hB]; simp [hsA]
  have hbB : Below wA.heap.size wA wB := by rw [← hB]; exact (Below.refl _ _).alloc (Nat.le_refl _) _
  have hmB : MapAt wB (w.heap.size + 1) (fun _ => none) := by rw [← hB, ← hsA]; exact map_made wA
  generalize hC : wB.alloc (.cells #[.bool false, .int .i64 0, .slice none 0 0, .int .i64 size, .slice (some ⟨w.heap.size, 0, none⟩) n n, .slice none 0 0, .map (some (w.heap.size + 1)), .int .i64 0, .int .i64 0] 69) = wC
  have hsC : wC.heap.size = w.heap.size + 1 + 1 + 1 := by rw [← hC]; simp [hsB]
  have hbC : Below wB.heap.size wB wC := by rw [← hC]; exact (Below.refl _ _).alloc (Nat.le_refl _) _
  have hrC := heap_alloc_new wB (.cells #[.bool false, .int .i64 0, .slice none 0 0, .int .i64 size, .slice (some ⟨w.heap.size, 0, none⟩) n n, .slice none 0 0, .map (some (w.heap.size + 1)), .int .i64 0, .int .i64 0] 69)
  rw [hC, hsB] at hrC
  refine ⟨w.heap.size + 1 + 1, _, rfl, dk0_at n size wC H.out w.heap.size (w.heap.size + 1) _ (by omega) (by omega) (by omega) w.heap.size ⟨by omega, by omega, by omega⟩ ⟨by omega, by omega, by omega⟩ ?_ ?_ hrC, fun k hk => hk.1, ?_⟩
  · exact row_keep (row_keep hkA hbB) hbC
  · exact hmB.at (hbC.block _ (by omega))
  · exact Below.call (Below.call hbA hbB) hbC
def armS (st : Dk) (n : Int) (keep : List Bool) : Dk := { st with armed := if n < 1 then 1 else n, keep := keep }
set_option linter.unusedSimpArgs false in
set_option linter.unusedVariables false in
set_option maxRecDepth 100000 in
set_option maxHeartbeats 2000000 in
theorem armP {w w' : World} {Z : Nat → Prop} {d kb mb : Nat} {pv kv : Value} {vals pvs : List Value} {st : Dk} (p : DkP w Z d kb mb pv kv vals pvs st) (hoth : ∀ x, Z x → x ≠ d → w'.heap[x]? = w.heap[x]?) (n : Int)
    (row : w'.heap[d]? = some (.cells #[.bool st.off, .int .i64 (if n < 1 then 1 else n), .slice none 0 0, .int .i64 st.size, .slice (some ⟨kb, 0, none⟩) st.kept.length st.kept.length, pv, .map (some mb), .int .i64 st.writes, .int .i64 st.reads] 69 (0, 0))) (h2 : n ≤ 9223372036854775807) :
    DkP w' Z d kb mb pv (.slice none 0 0) vals pvs (armS st n []) := by
  have hm : ∀ x, Z x → ¬ MutD d kb mb pv x → w'.heap[x]? = w.heap[x]? := fun x hx h => hoth x hx (fun e => h (.inl e))
  refine ⟨row, ?_, ?_, ?_, ?_, ?_, ⟨none, 0, 0, rfl, ⟨rfl, Nat.le_refl _, by unfold maxLen; omega, fun i hi => by omega, fun _ => rfl⟩, fun q hq => by cases hq⟩, p.ne, p.rm, p.z, ⟨p.ok.size, p.ok.n, p.ok.kept, p.ok.pend, ?_, p.ok.few, p.ok.writes, p.ok.reads⟩⟩
  · rw [hoth kb (p.z kb (.inr (.inl rfl))) p.ne.1.symm]; exact p.krow
  · exact p.kvals.imp fun v l h => h.at hm (fun _ _ h => h) (fun _ h => h)
  · exact ownsRow_at p.prow (fun g hg => hoth g (p.z g (.inr (.inr (.inr hg)))) (p.rm g hg).1)
  · exact p.pvals.imp fun v l h => h.at hm (fun _ _ h => h) (fun _ h => h)
  · exact p.map.at (hoth mb (p.z mb (.inr (.inr (.inl rfl)))) p.ne.2.1.symm)
  · show 0 ≤ (if n < 1 then 1 else n) ∧ (if n < 1 then 1 else n) ≤ 9223372036854775807
    split <;> omega
set_option maxRecDepth 100000 in
theorem clone_nil (w : World) : Calls Try.prog 65 #[.slice none 0 0] w fun e w' => e = .returned (.slice none 0 0) ∧ w = w' := by
  have hnil := fun (w : World) (a : Option Addr) (n c : Nat) => Lib.run_eql_slice_nil (P := Try.prog) w 61 4 a n c 0 0 Try.underlying61
  go_enter Try.func65, Try.ntmps65
  go_wp2
  go_ret
  exact ⟨rfl, rfl⟩
set_option linter.unusedSimpArgs false in
set_option linter.unusedVariables false in
set_option maxRecDepth 100000 in
set_option maxHeartbeats 2000000 in
theorem arm_nil (Z : Nat → Prop) (d : Nat) (st : Dk) (n : Int) (w : World) (h : DkIn w Z d st) (h1 : -9223372036854775808 ≤ n) (h2 : n ≤ 9223372036854775807) : Calls Try.prog 25 #[.pointer (some ⟨d, 0, none⟩), .int .i64 n, .slice none 0 0] w fun e w' => e = .returned (.tuple #[]) ∧ DkIn w' Z d (armS st n []) ∧ Tnd Z Z w w' := by
  obtain ⟨hz, kb, mb, pv, kv, vals, pvs, p⟩ := h
  obtain ⟨c0, c1, c2, c3, c4, c5, c6, c7, c8, cf⟩ := cellsD p.row
  have P := Lib.hid p
  have hZm := p.z
  clear p
  by_cases hn1 : n < 1
  · have e1 : (if n < 1 then 1 else n) = 1 := if_pos hn1
    have e2 : (max n 1 : Int) = 1 := by omega
    go_enter Try.func25, Try.ntmps25
    go_wp2_with fail
    refine (clone_nil _).mono ?_
    rintro e w1 ⟨rfl, rfl⟩
    go_wp2_with fail
    go_end0
    have hoth : ∀ x, x ≠ d → ((w.setCell ⟨d, 1, none⟩ (.int .i64 1)).setCell ⟨d, 2, none⟩ (.slice none 0 0)).heap[x]? = w.heap[x]? := fun x hne => by
      rw [heap_setCell_other _ ⟨d, 2, none⟩ x _ hne, heap_setCell_other w ⟨d, 1, none⟩ x _ hne]
    have hrow : ((w.setCell ⟨d, 1, none⟩ (.int .i64 1)).setCell ⟨d, 2, none⟩ (.slice none 0 0)).heap[d]? = some (.cells #[.bool st.off, .int .i64 1, .slice none 0 0, .int .i64 st.size, .slice (some ⟨kb, 0, none⟩) st.kept.length st.kept.length, pv, .map (some mb), .int .i64 st.writes, .int .i64 st.reads] 69 (0, 0)) := by
      rw [heap_setCell_same _ d 2 _ _ _ (heap_setCell_same w d 1 _ _ _ P.out.row)]
      simp
    refine ⟨rfl, ⟨fun x hx => by simpa using hz x hx, kb, mb, pv, .slice none 0 0, vals, pvs, armP P.out (fun x _ hne => hoth x hne) n (by rw [e1]; exact hrow) (by omega)⟩, ⟨rfl, rfl, rfl, by simp, fun x _ hzx => hoth x (fun e => hzx (by rw [e]; exact hZm d (.inl rfl))), fun x h => .inl h⟩⟩
  · have e1 : (if n < 1 then 1 else n) = n := if_neg hn1
    go_enter Try.func25, Try.ntmps25
    go_wp2_with fail
    refine (clone_nil _).mono ?_
    rintro e w1 ⟨rfl, rfl⟩
    go_wp2_with fail
    go_end0
    have hoth : ∀ x, x ≠ d → ((w.setCell ⟨d, 1, none⟩ (.int .i64 n)).setCell ⟨d, 2, none⟩ (.slice none 0 0)).heap[x]? = w.heap[x]? := fun x hne => by
      rw [heap_setCell_other _ ⟨d, 2, none⟩ x _ hne, heap_setCell_other w ⟨d, 1, none⟩ x _ hne]
    have hrow : ((w.setCell ⟨d, 1, none⟩ (.int .i64 n)).setCell ⟨d, 2, none⟩ (.slice none 0 0)).heap[d]? = some (.cells #[.bool st.off, .int .i64 n, .slice none 0 0, .int .i64 st.size, .slice (some ⟨kb, 0, none⟩) st.kept.length st.kept.length, pv, .map (some mb), .int .i64 st.writes, .int .i64 st.reads] 69 (0, 0)) := by
      rw [heap_setCell_same _ d 2 _ _ _ (heap_setCell_same w d 1 _ _ _ P.out.row)]
      simp
    refine ⟨rfl, ⟨fun x hx => by simpa using hz x hx, kb, mb, pv, .slice none 0 0, vals, pvs, armP P.out (fun x _ hne => hoth x hne) n (by rw [e1]; exact hrow) (by omega)⟩, ⟨rfl, rfl, rfl, by simp, fun x _ hzx => hoth x (fun e => hzx (by rw [e]; exact hZm d (.inl rfl))), fun x h => .inl h⟩⟩
end Go.Proofs.Ytcbnebcooiagmaa
namespace Go.Proofs.Ytcbnebcooiagmaa
open Go.RowKit
/-- A disk that is made behind w0. -/
structure DkB (w0 w : World) (d : Nat) (Z : Nat → Prop) (st : Dk) : Prop where
  din : DkIn w Z d st
  base : ∀ k, Z k → w0.heap.size ≤ k
  below : Below w0.heap.size w0 w
theorem DkB.more {w0 w w' : World} {d : Nat} {Z : Nat → Prop} {st : Dk} (h : DkB w0 w d Z st) (b : Below w.heap.size w w') : DkB w0 w' d Z st := ⟨h.din.below b, h.base, Below.call h.below b⟩
theorem DkB.turn {w0 w w' : World} {d : Nat} {Z Z' : Nat → Prop} {st st' : Dk} (h : DkB w0 w d Z st) (i : DkIn w' Z' d st') (t : Tnd Z Z' w w') : DkB w0 w' d Z' st' :=
  ⟨i, t.base h.base h.below.size, h.below.trans (t.below h.base h.below.size)⟩
/-- A buffer of bytes in a block of its own. -/
def BufAt (w : World) (b : Nat) (l : List Int) : Prop := w.heap[b]? = some (.cells (l.map (Value.int .u8)).toArray 5 (0, 0)) ∧ (∀ x ∈ l, (Lit.int .u8 x).wf = true) ∧ l.length ≤ 1000000
theorem BufAt.rd {w : World} {b : Nat} {l : List Int} (h : BufAt w b l) : RdAt .u8 w (some ⟨b, 0, none⟩) l.length l.length l :=
  ⟨rfl, Nat.le_refl _, by have := h.2.2; unfold maxLen; omega, fun i hi => ⟨b, 0, rfl, by rw [cell_of_row w _ _ _ _ _ h.1]; simp [nth_eq hi, hi]⟩, h.2.1, fun h => by cases h⟩
theorem BufAt.cell {w : World} {b : Nat} {l : List Int} (h : BufAt w b l) {i : Nat} (hi : i < l.length) : w.cell? ⟨b, i, none⟩ = some (.int .u8 (nth l i)) := by
  rw [cell_of_row w _ _ _ _ _ h.1]; simp [nth_eq hi, hi]
theorem BufAt.free {w : World} {b : Nat} {l : List Int} (h : BufAt w b l) (i : Nat) : w.frozen? ⟨b, i, none⟩ = false := frozen_of_row w _ i _ _ h.1
theorem BufAt.put {w : World} {b : Nat} {l : List Int} (h : BufAt w b l) (i : Nat) (x : Int) (hx : (Lit.int .u8 x).wf = true) : BufAt (w.setCell ⟨b, i, none⟩ (.int .u8 x)) b (l.set i x) := by
  refine ⟨by rw [heap_setCell_same w b i _ _ _ h.1]; simp, fun y hy => ?_, by rw [List.length_set]; exact h.2.2⟩
  rcases List.mem_or_eq_of_mem_set hy with h1 | h1
  · exact h.2.1 y h1
  · rw [h1]; exact hx
theorem BufAt.lt {w : World} {b : Nat} {l : List Int} (h : BufAt w b l) : b < w.heap.size := (Array.getElem?_eq_some_iff.1 h.1).1
theorem BufAt.below {w w' : World} {b : Nat} {l : List Int} (h : BufAt w b l) (hb : Below w.heap.size w w') : BufAt w' b l := ⟨row_keep h.1 hb, h.2⟩
theorem BufAt.tnd {Z Z' : Nat → Prop} {w w' : World} {b : Nat} {l : List Int} (h : BufAt w b l) (t : Tnd Z Z' w w') (hz : ¬ Z b) : BufAt w' b l := ⟨by rw [t.block b h.lt hz]; exact h.1, h.2⟩
set_option maxRecDepth 100000 in
theorem mk64 (w : World) : ∃ w', (Instr.makeSlice 29 (.int .i64 64) (.int .i64 64)).run Try.prog w = .ok (.slice (some ⟨w.heap.size, 0, none⟩) 64 64) w' ∧ BufAt w' w.heap.size (List.replicate 64 0) ∧ Below w.heap.size w w' :=
  ⟨_, mk_bytes 64 (by omega) w, ⟨by rw [List.map_replicate]; exact heap_alloc_new _ _, fun x hx => by rw [List.eq_of_mem_replicate hx]; rfl, by simp⟩, (Below.refl _ _).alloc (Nat.le_refl _) _⟩
theorem put_below (w : World) (B b i : Nat) (x : Value) (h : B ≤ b) : Below B w (w.setCell ⟨b, i, none⟩ x) :=
  ⟨rfl, rfl, rfl, by simp, fun k hk => heap_setCell_other w ⟨b, i, none⟩ k x (by show k ≠ b; omega)⟩
def A1 : List Int := (List.replicate 64 0).set 0 1
def A2 : List Int := (List.replicate 64 0).set 0 2
def S0 : Dk := dk0 2 64
def S1 : Dk := wrS S0 0 A1
def S2 : Dk := wrS S1 0 A2
def S3 : Dk := rdS S2 0
def S4 : Dk := cutS S3 [true]
def S5 : Dk := rdS S4 0
def S6 : Dk := { S5 with off := false }
def S7 : Dk := rdS S6 0
theorem k2 : rdV S2 0 = A2 := by kernel_rfl
theorem k4 : rdE S4 0 = 8 := by kernel_rfl
theorem k6 : rdV S6 0 = A1 := by kernel_rfl
theorem lenA1 : A1.length = 64 := by kernel_rfl
theorem lenA2 : A2.length = 64 := by kernel_rfl
theorem nthA1 : nth A1 0 = 1 := by kernel_rfl
theorem nthA2 : nth A2 0 = 2 := by kernel_rfl
theorem k60 : rdE S6 0 = 0 := by kernel_rfl
theorem kb0 : S0.pend.length + 1 ≤ 1000000 ∧ S0.writes + 1 ≤ 4611686018427387904 := of_decide_eq_true (by kernel_rfl)
theorem kb1 : S1.pend.length + 1 ≤ 1000000 ∧ S1.writes + 1 ≤ 4611686018427387904 := of_decide_eq_true (by kernel_rfl)
theorem kb2 : S2.reads + 1 ≤ 4611686018427387904 ∧ S4.reads + 1 ≤ 4611686018427387904 ∧ S6.reads + 1 ≤ 4611686018427387904 := of_decide_eq_true (by kernel_rfl)
theorem r264 : rightB 2 64 = true := by decide
end Go.Proofs.Ytcbnebcooiagmaa
namespace Go.Proofs.Ytcbnebcooiagmaa
open Go.RowKit
set_option maxRecDepth 100000 in
theorem supdec_any (a : Option Addr) (n c : Nat) (s : List Int) (w : World) (hr : RdAt .u8 w a n c s) (hn : n ≤ 100000) :
    Calls Try.prog 12 #[.slice a n c] w fun e w' => e = .returned (.tuple #[(supD s).val, .int .i64 (supDE s)]) ∧ Below w.heap.size w w' := by
  by_cases h : n < 64
  · exact supdec_short a n c s w hr hn h
  · cases ho : openOk s with
    | false => exact supdec_unsealed a n c s w hr hn (by omega) ho
    | true => exact supdec_long a n c s w hr hn (by omega) ho
set_option maxRecDepth 100000 in
theorem refdec_any (a : Option Addr) (n c : Nat) (s : List Int) (w : World) (hr : RdAt .u8 w a n c s) (hn : n ≤ 100000) :
    Calls Try.prog 13 #[.slice a n c] w fun e w' => e = .returned (.tuple #[(refD s).val, .int .i64 (refDE s)]) ∧ Below w.heap.size w w' := by
  by_cases h : n < 64
  · exact refdec_short a n c s w hr hn h
  · cases ho : openOk s with
    | false => exact refdec_unsealed a n c s w hr hn (by omega) ho
    | true => exact refdec_long a n c s w hr hn (by omega) ho
theorem below_tnd {w w' : World} (b : Below w.heap.size w w') (Z : Nat → Prop) : Tnd Z Z w w' := ⟨b.os, b.tape, b.output, b.size, fun k hk _ => b.block k hk, fun _ h => .inl h⟩
theorem row_tnd {w w' : World} {Z Z' : Nat → Prop} {k : Nat} {c : Obj} (h : w.heap[k]? = some c) (t : Tnd Z Z' w w') (hz : ¬ Z k) : w'.heap[k]? = some c := by
  rw [t.block k (Array.getElem?_eq_some_iff.1 h).1 hz]; exact h
theorem rd_tnd {w w' : World} {Z Z' : Nat → Prop} {kd : IntKind} {a : Option Addr} {n c : Nat} {l : List Int} (h : RdAt kd w a n c l) (t : Tnd Z Z' w w') (hz : ∀ q, a = some q → 0 < n → ¬ Z q.block) : RdAt kd w' a n c l :=
  ⟨h.len, h.cap, h.max, fun i hi => by
    obtain ⟨b, o, e, hc⟩ := h.cell i hi
    exact ⟨b, o, e, by rw [← hc]; exact World.cell?_of_block (a := ⟨b, o + i, none⟩) (t.block b (block_lt_of_cell hc) (hz _ e (by omega)))⟩, h.wf, h.void⟩
/-- The disk has the block's shape. -/
def fitB (st : Dk) (b : Blk) : Bool := decide ((st.kept.length : Int) = b.c0) && decide ((st.size : Int) = b.c1)
set_option linter.unusedSimpArgs false in
set_option linter.unusedVariables false in
set_option maxRecDepth 100000 in
set_option maxHeartbeats 1000000 in
theorem fits_any (Z : Nat → Prop) (d : Nat) (st : Dk) (b : Blk) (w : World) (h : DkIn w Z d st) :
    Calls Try.prog 61 #[.pointer (some ⟨d, 0, none⟩), .agg #[.int .i64 b.c0, .int .i64 b.c1, .int .i64 b.c2, .int .i64 b.c3, .int .i64 b.c4, .int .i64 b.c5, .int .i64 b.c6, .int .i64 b.c7, .int .i64 b.c8]] w fun e w' => e = .returned (.bool (fitB st b)) ∧ Below w.heap.size w w' := by
  have hD := Lib.hid h
  obtain ⟨ep, f0, f1, f2, f3, f4, f5, f6, f7, f8, rs, rn, sq⟩ := b
  show Calls _ _ #[_, .agg #[.int .i64 f0, .int .i64 f1, .int .i64 f2, .int .i64 f3, .int .i64 f4, .int .i64 f5, .int .i64 f6, .int .i64 f7, .int .i64 f8]] _ _
  have hba : Below w.heap.size w (w.alloc (.cells #[.int .i64 f0, .int .i64 f1, .int .i64 f2, .int .i64 f3, .int .i64 f4, .int .i64 f5, .int .i64 f6, .int .i64 f7, .int .i64 f8] 24)) := (Below.refl _ _).alloc (Nat.le_refl _) _
  have hrow := heap_alloc_new w (.cells #[.int .i64 f0, .int .i64 f1, .int .i64 f2, .int .i64 f3, .int .i64 f4, .int .i64 f5, .int .i64 f6, .int .i64 f7, .int .i64 f8] 24)
  obtain ⟨wa, hwa⟩ : ∃ wa, w.alloc (.cells #[.int .i64 f0, .int .i64 f1, .int .i64 f2, .int .i64 f3, .int .i64 f4, .int .i64 f5, .int .i64 f6, .int .i64 f7, .int .i64 f8] 24) = wa := ⟨_, rfl⟩
  rw [hwa] at hba hrow
  have HBA := Lib.hid hba
  have HROW := Lib.hid hrow
  have HWA := Lib.hid hwa
  obtain ⟨kl, hkl⟩ : ∃ kl, st.kept.length = kl := ⟨_, rfl⟩
  obtain ⟨sz, hsz⟩ : ∃ sz, st.size = sz := ⟨_, rfl⟩
  have HKL := Lib.hid hkl
  have HSZ := Lib.hid hsz
  obtain ⟨hb, hhb⟩ : ∃ hb, w.heap.size = hb := ⟨_, rfl⟩
  have HHB := Lib.hid hhb
  clear hba hrow hwa h hkl hsz hhb
  go_enter Try.func61, Try.ntmps61
  go_wp2_with fail
  rw [HWA.out]
  refine (shape_any Z d st wa (hD.out.below HBA.out)).mono ?_
  rintro e w1 ⟨rfl, hb1⟩
  have ROW1 := Lib.hid (row_keep HROW.out hb1)
  have B1 := Lib.hid (Below.trans HBA.out (hb1.mono HBA.out.size))
  rw [HKL.out, HSZ.out]
  obtain ⟨z0, z1, z2, z3, z4, z5, z6, z7, z8⟩ := cells9 ROW1.out
  clear hb1
  have hF : Hid (fitB st ⟨ep, f0, f1, f2, f3, f4, f5, f6, f7, f8, rs, rn, sq⟩ = (decide ((kl : Int) = f0) && decide ((sz : Int) = f1))) := by show _ = _; unfold fitB; rw [HKL.out, HSZ.out]
  by_cases h0 : (kl : Int) = f0
  · have d0 : ((kl : Int) == f0) = true := by simpa using h0
    by_cases h1 : (sz : Int) = f1
    · have d1 : ((sz : Int) == f1) = true := by simpa using h1
      have HF : Hid (fitB st ⟨ep, f0, f1, f2, f3, f4, f5, f6, f7, f8, rs, rn, sq⟩ = true) := by show _ = _; rw [hF.out, decide_eq_true h0, decide_eq_true h1]; rfl
      clear h0 h1
      go_wp2_with fail
      go_ret
      rw [HF.out]
      exact ⟨rfl, B1.out⟩
    · have d1 : ((sz : Int) == f1) = false := by simpa using h1
      have HF : Hid (fitB st ⟨ep, f0, f1, f2, f3, f4, f5, f6, f7, f8, rs, rn, sq⟩ = false) := by show _ = _; rw [hF.out, decide_eq_true h0, decide_eq_false h1]; rfl
      clear h0 h1
      go_wp2_with fail
      go_ret
      rw [HF.out]
      exact ⟨rfl, B1.out⟩
  · have d0 : ((kl : Int) == f0) = false := by simpa using h0
    have HF : Hid (fitB st ⟨ep, f0, f1, f2, f3, f4, f5, f6, f7, f8, rs, rn, sq⟩ = false) := by show _ = _; rw [hF.out, decide_eq_false h0]; rfl
    clear h0
    go_wp2_with fail
    go_ret
    rw [HF.out]
    exact ⟨rfl, B1.out⟩
end Go.Proofs.Ytcbnebcooiagmaa
