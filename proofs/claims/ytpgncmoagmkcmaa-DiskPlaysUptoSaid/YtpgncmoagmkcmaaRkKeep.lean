/- disk: the reference's disk: where it lies; keep. -/
import Derived.Test.YtpgncmoagmkcmaaDkBur
namespace Go.Proofs.Ytpgncmoagmkcmaa
open Go.RowKit
/-- The blocks that the reference's disk writes. -/
def MutR (r bb : Nat) (lv : Value) (b : Nat) : Prop := b = r ∨ b = bb ∨ lv.ownBlock = some b
structure RkP (w : World) (Z : Nat → Prop) (r bb : Nat) (lv kv : Value) (pvs : List Value) (st : Dk) : Prop where
  row : w.heap[r]? = some (.cells #[.int .i64 st.kept.length, .int .i64 st.size, .slice (some ⟨bb, 0, none⟩) st.kept.flatten.length st.kept.flatten.length, lv, .bool st.off, .int .i64 st.armed, kv, .int .i64 st.writes, .int .i64 st.reads] 61 (0, 0))
  brow : w.heap[bb]? = some (.cells (st.kept.flatten.map (Value.int .u8)).toArray 5 (0, 0))
  bwf : ∀ x ∈ st.kept.flatten, (Lit.int .u8 x).wf = true
  prow : w.ownsRow 0 85 2 lv st.pend.length (pendC st.pend pvs)
  pvals : All2 (fun v (p : Int × List Int) => SlcV w (MutR r bb lv) Z v p.2) pvs st.pend
  keep : KeepV w (MutR r bb lv) Z kv st.keep
  ne : r ≠ bb
  rm : ∀ g, lv.ownBlock = some g → g ≠ r ∧ g ≠ bb
  z : ∀ b, MutR r bb lv b → Z b
  ok : DkOk st
/-- The reference's disk in block r; all that it is made of lies in Z. -/
def RkIn (w : World) (Z : Nat → Prop) (r : Nat) (st : Dk) : Prop := (∀ k, Z k → k < w.heap.size) ∧ ∃ bb lv kv pvs, RkP w Z r bb lv kv pvs st
set_option linter.unusedVariables false in
theorem RkP.re {w w' : World} {Z : Nat → Prop} {r bb : Nat} {lv kv : Value} {pvs : List Value} {st st' : Dk} (p : RkP w Z r bb lv kv pvs st) (hoth : ∀ x, Z x → x ≠ r → w'.heap[x]? = w.heap[x]?)
    (row : w'.heap[r]? = some (.cells #[.int .i64 st'.kept.length, .int .i64 st'.size, .slice (some ⟨bb, 0, none⟩) st'.kept.flatten.length st'.kept.flatten.length, lv, .bool st'.off, .int .i64 st'.armed, kv, .int .i64 st'.writes, .int .i64 st'.reads] 61 (0, 0))) (e1 : st'.kept = st.kept) (e2 : st'.size = st.size) (e3 : st'.pend = st.pend) (e4 : st'.keep = st.keep) (ok : DkOk st') : RkP w' Z r bb lv kv pvs st' := by
  have hm : ∀ x, Z x → ¬ MutR r bb lv x → w'.heap[x]? = w.heap[x]? := fun x hx h => hoth x hx (fun e => h (.inl e))
  refine ⟨row, ?_, ?_, ?_, ?_, ?_, p.ne, p.rm, p.z, ok⟩
  · rw [e1, hoth bb (p.z bb (.inr (.inl rfl))) p.ne.symm]; exact p.brow
  · rw [e1]; exact p.bwf
  · rw [e3]; exact ownsRow_at p.prow (fun g hg => hoth g (p.z g (.inr (.inr hg))) (p.rm g hg).1)
  · rw [e3]; exact p.pvals.imp fun v l h => h.at hm (fun _ _ h => h) (fun _ h => h)
  · rw [e4]; exact p.keep.at hm (fun _ _ h => h) (fun _ h => h)
theorem RkP.same {w w' : World} {Z : Nat → Prop} {r bb : Nat} {lv kv : Value} {pvs : List Value} {st : Dk} (p : RkP w Z r bb lv kv pvs st) (hs : ∀ x, Z x → w'.heap[x]? = w.heap[x]?) : RkP w' Z r bb lv kv pvs st :=
  p.re (fun x hx _ => hs x hx) (by rw [hs r (p.z r (.inl rfl))]; exact p.row) rfl rfl rfl rfl p.ok
theorem RkIn.same {w w' : World} {Z : Nat → Prop} {r : Nat} {st : Dk} (h : RkIn w Z r st) (hs : ∀ x, Z x → w'.heap[x]? = w.heap[x]?) (hsz : w.heap.size ≤ w'.heap.size) : RkIn w' Z r st := by
  obtain ⟨hz, bb, lv, kv, pvs, p⟩ := h
  exact ⟨fun x hx => Nat.lt_of_lt_of_le (hz x hx) hsz, bb, lv, kv, pvs, p.same hs⟩
theorem RkIn.below {w w' : World} {Z : Nat → Prop} {r : Nat} {st : Dk} (h : RkIn w Z r st) (hb : Below w.heap.size w w') : RkIn w' Z r st := h.same (fun x hx => hb.block x (h.1 x hx)) hb.size
/-- l's first i bytes laid over f, from lo on. -/
def lay (f : List Int) (lo : Nat) (l : List Int) (i : Nat) : List Int := f.take lo ++ (l.take i ++ f.drop (lo + i))
theorem lay_zero (f : List Int) (lo : Nat) (l : List Int) : lay f lo l 0 = f := by unfold lay; simp
theorem lay_len {f : List Int} {lo : Nat} {l : List Int} {i : Nat} (h : lo + l.length ≤ f.length) (hi : i ≤ l.length) : (lay f lo l i).length = f.length := by unfold lay; simp; omega
theorem lay_succ {f : List Int} {lo : Nat} {l : List Int} {i : Nat} (h : lo + l.length ≤ f.length) (hi : i < l.length) : (lay f lo l i).set (lo + i) (nth l i) = lay f lo l (i + 1) := by
  unfold lay
  rw [List.set_append_right (h := by simp; omega), List.length_take, Nat.min_eq_left (by omega), Nat.add_sub_cancel_left, List.set_append_right (h := by simp; omega), List.length_take, Nat.min_eq_left (by omega), Nat.sub_self, List.drop_eq_getElem_cons (show lo + i < f.length by omega), List.set_cons_zero, List.take_add_one, List.getElem?_eq_getElem hi, nth_eq hi, Option.toList_some, List.append_assoc, Nat.add_assoc]
  rfl
theorem flatten_set : ∀ (K : List (List Int)) (s : Nat) (l : List Int) (z : Nat), (∀ x ∈ K, x.length = z) → l.length = z → s < K.length → (K.set s l).flatten = lay K.flatten (s * z) l z
  | [], s, l, z, _, _, h => by simp at h
  | x :: K, 0, l, z, hK, hl, _ => by
    have hx := hK x (by simp)
    unfold lay
    rw [List.set_cons_zero, List.flatten_cons, List.flatten_cons, Nat.zero_mul, List.take_zero, List.nil_append, List.take_of_length_le (by omega), Nat.zero_add, List.drop_append_of_le_length (by omega), List.drop_of_length_le (by omega), List.nil_append]
  | x :: K, s + 1, l, z, hK, hl, h => by
    have hx := hK x (by simp)
    have ih := flatten_set K s l z (fun y hy => hK y (by simp [hy])) hl (by simpa using h)
    rw [List.set_cons_succ, List.flatten_cons, ih, List.flatten_cons]
    have e1 : (x ++ K.flatten).take (x.length + s * z) = x ++ K.flatten.take (s * z) := by
      rw [List.take_append, List.take_of_length_le (by omega), Nat.add_sub_cancel_left]
    have e2 : (x ++ K.flatten).drop (x.length + (s * z + z)) = K.flatten.drop (s * z + z) := by
      rw [List.drop_append, List.drop_of_length_le (by omega), Nat.add_sub_cancel_left, List.nil_append]
    unfold lay
    rw [show (s + 1) * z = x.length + s * z by rw [hx, Nat.succ_mul]; omega, show x.length + s * z + z = x.length + (s * z + z) by omega, e1, e2, List.append_assoc]
theorem flat_len : ∀ (K : List (List Int)) (z : Nat), (∀ x ∈ K, x.length = z) → K.flatten.length = K.length * z
  | [], z, _ => by simp
  | x :: K, z, h => by
    rw [List.flatten_cons, List.length_append, flat_len K z (fun y hy => h y (by simp [hy])), h x (by simp), List.length_cons, Nat.succ_mul]
    omega
set_option linter.unusedSimpArgs false in
set_option linter.unusedVariables false in
set_option maxRecDepth 100000 in
set_option maxHeartbeats 4000000 in
theorem keep_any (Z : Nat → Prop) (r bb : Nat) (lv kv : Value) (pvs : List Value) (st : Dk) (s b9 o9 n9 c9 : Nat) (l : List Int) (w : World) (p : RkP w Z r bb lv kv pvs st) (hz : ∀ k, Z k → k < w.heap.size)
    (hr : RdAt .u8 w (some ⟨b9, o9, none⟩) n9 c9 l) (hb : b9 ≠ r ∧ b9 ≠ bb) (hs : s < st.kept.length) (hl : l.length = st.size) :
    Calls Try.prog 44 #[.pointer (some ⟨r, 0, none⟩), .agg #[.int .i64 s, .slice (some ⟨b9, o9, none⟩) n9 c9]] w fun e w' => e = .returned (.tuple #[]) ∧ RkP w' Z r bb lv kv pvs { st with kept := st.kept.set s l } ∧ w.grownBy w' (some bb) := by
  have P := Lib.hid p
  have HR := Lib.hid hr
  have hsz := p.ok.size
  have hnk := p.ok.n
  obtain ⟨z, hzz⟩ : ∃ z, st.size = z := ⟨_, rfl⟩
  obtain ⟨N, hN⟩ : ∃ N, st.kept.length = N := ⟨_, rfl⟩
  obtain ⟨F, hF⟩ : ∃ F, st.kept.flatten.length = F := ⟨_, rfl⟩
  obtain ⟨lo, hlo⟩ : ∃ lo, s * z = lo := ⟨_, rfl⟩
  have hFN : F = N * z := by rw [← hF, ← hN, ← hzz]; exact flat_len _ _ p.ok.kept
  have hfit : lo + z ≤ F := by
    rw [hFN, ← hlo, ← Nat.succ_mul]
    exact Nat.mul_le_mul_right _ (by omega)
  have hFb : F ≤ 268435456 := by
    rw [hFN]
    exact Nat.le_trans (Nat.mul_le_mul (show N ≤ 65536 by omega) (show z ≤ 4096 by omega)) (by omega)
  have hn9 : n9 = z := by rw [← hr.len, hl, hzz]
  have hrw := p.row
  rw [hN, hzz, hF] at hrw
  have HROW := Lib.hid hrw
  have HF := Lib.hid hF
  have HLO := Lib.hid hlo
  have HL : Hid (l.length = z) := by show _ = _; rw [hl, hzz]
  have HZZ := Lib.hid hzz
  have HN := Lib.hid hN
  rw [hzz] at hsz
  rw [hN] at hnk hs
  have hrl := hz r (p.z r (.inl rfl))
  have hbl := hz bb (p.z bb (.inr (.inl rfl)))
  have hne := p.ne
  have hb9 : b9 < w.heap.size := by
    obtain ⟨b5, o5, e5, h5⟩ := hr.cell 0 (by omega)
    injection e5 with e5
    injection e5 with e5 _
    rw [e5]
    exact block_lt_of_cell h5
  clear p hr hl hzz hN hF hlo hrw hFN
  subst hn9
  go_enter Try.func44, Try.ntmps44
  obtain ⟨w2, hw2⟩ : ∃ w2, w.alloc (.cells #[.int .i64 (s : Int), .slice (some ⟨b9, o9, none⟩) n9 c9] 85) = w2 := ⟨_, rfl⟩
  have hb2 : Below w.heap.size w w2 := by rw [← hw2]; exact (Below.refl _ _).alloc (Nat.le_refl _) _
  have ht5 : w2.heap[w.heap.size]? = some (.cells #[.int .i64 (s : Int), .slice (some ⟨b9, o9, none⟩) n9 c9] 85 (0, 0)) := by rw [← hw2]; exact heap_alloc_new _ _
  have HW2 := Lib.hid hw2
  have HB2 := Lib.hid hb2
  obtain ⟨tb, htb⟩ : ∃ tb, w.heap.size = tb := ⟨_, rfl⟩
  have HTB := Lib.hid htb
  rw [htb] at ht5
  have HT5 := Lib.hid ht5
  have htne : tb ≠ bb ∧ tb ≠ r := by omega
  clear hw2 hb2 ht5 htb
  go_wp2_with fail
  rw [HW2.out, HTB.out]
  go_loopw [4] (fun i wr => ∃ (i0 : Nat), i0 ≤ n9 ∧ i = .int .i64 i0 ∧ Hid (wr.heap[bb]? = some (.cells ((lay st.kept.flatten lo l i0).map (Value.int .u8)).toArray 5 (0, 0))) ∧ Hid (w2.grownBy wr (some bb))) (fun i _ => n9 - (intOf i).toNat)
  case atStart => exact ⟨0, by omega, rfl, by show _ = _; rw [lay_zero]; exact row_keep P.out.brow HB2.out, World.grownBy.refl _ _⟩
  case round =>
    obtain ⟨i, hi, rfl, HB, HG⟩ := hrel
    have hrow4 : wr.drew.heap[r]? = some (.cells #[.int .i64 N, .int .i64 n9, .slice (some ⟨bb, 0, none⟩) F F, lv, .bool st.off, .int .i64 st.armed, kv, .int .i64 st.writes, .int .i64 st.reads] 61 (0, 0)) := show wr.heap[r]? = _ from grown_at (row_keep HROW.out HB2.out) HG.out hne
    obtain ⟨c0, c1, c2, c3, c4, c5, c6, c7, c8, cf⟩ := cellsD (w := wr) hrow4
    by_cases hin : i < n9
    · have hbox4 : wr.drew.heap[tb]? = some (.cells #[.int .i64 (s : Int), .slice (some ⟨b9, o9, none⟩) n9 c9] 85 (0, 0)) := show wr.heap[tb]? = _ from grown_at HT5.out HG.out htne.1
      have hrd4 : RdAt .u8 wr.drew (some ⟨b9, o9, none⟩) n9 c9 l := ((HR.out.below HB2.out).grown HG.out (fun x hx e => by injection hx with hx; subst hx; exact hb.2 (Option.some.inj e))).at0 rfl
      have hb4 : wr.drew.heap[bb]? = some (.cells ((lay st.kept.flatten lo l i).map (Value.int .u8)).toArray 5 (0, 0)) := HB.out
      have hB4 : wr.grownBy wr.drew (some bb) := ⟨rfl, rfl, rfl, Nat.le_refl _, fun _ _ _ => rfl⟩
      have HIN := Lib.hid hin
      have HLI : Hid (lo + i < (lay st.kept.flatten lo l i).length) := by show _ < _; rw [lay_len (by rw [HL.out, HF.out]; exact hfit) (by rw [HL.out]; omega), HF.out]; omega
      have HNX : Hid (lay st.kept.flatten lo l (i + 1) = (lay st.kept.flatten lo l i).set (lo + i) (nth l i)) := (lay_succ (by rw [HL.out, HF.out]; exact hfit) (by rw [HL.out]; exact hin)).symm
      have dlt : decide ((i : Int) < n9) = true := decide_eq_true (by omega)
      have g1 : (s : Int) * (n9 : Int) = (lo : Int) := by rw [← HLO.out, Int.natCast_mul]
      have g2 : IntKind.i64.wrap (lo : Int) = lo := by rw [IntKind.wrap_i64]; omega
      have g3 : IntKind.i64.wrap ((lo : Int) + (i : Int)) = (lo : Int) + i := by rw [IntKind.wrap_i64]; omega
      have g4 : ((lo : Int) + (i : Int)).toNat = lo + i := by omega
      have g5 : (lo : Int) + (i : Int) < F := by omega
      have g6 : 0 ≤ (lo : Int) + (i : Int) := by omega
      have g7 : lo + i < F := by omega
      go_wp2_with fail
      refine' reg_order [eqV _, eqV _, eqV _, eqV _, eqV _, eqV _, eqV _, eqV _, eqV _, eqV _, eqV _, eqV _, eqV _, eqV _, eqV _, eqV _, eqV _, eqV _, eqV _, (fun _ w => w.heap[bb]? = some (.cells ((lay st.kept.flatten lo l (i + 1)).map (Value.int .u8)).toArray 5 (0, 0)))] [(19, fun w w' => World.grownBy w w' (some bb))] [(3, fun w => w.heap[r]? = some (.cells #[.int .i64 N, .int .i64 n9, .slice (some ⟨bb, 0, none⟩) F F, lv, .bool st.off, .int .i64 st.armed, kv, .int .i64 st.writes, .int .i64 st.reads] 61 (0, 0))), (5, fun w => w.heap[tb]? = some (.cells #[.int .i64 (s : Int), .slice (some ⟨b9, o9, none⟩) n9 c9] 85 (0, 0))), (9, fun w => w.heap[r]? = some (.cells #[.int .i64 N, .int .i64 n9, .slice (some ⟨bb, 0, none⟩) F F, lv, .bool st.off, .int .i64 st.armed, kv, .int .i64 st.writes, .int .i64 st.reads] 61 (0, 0))), (14, fun w => w.heap[tb]? = some (.cells #[.int .i64 (s : Int), .slice (some ⟨b9, o9, none⟩) n9 c9] 85 (0, 0))), (17, fun w => RdAt .u8 w (some ⟨b9, o9, none⟩) n9 c9 l), (19, fun w => w.heap[bb]? = some (.cells ((lay st.kept.flatten lo l i).map (Value.int .u8)).toArray 5 (0, 0))), (20, fun w => World.grownBy wr w (some bb))] [13, 14, 15, 16, 17, 18, 19, 20, 21, 22, 23, 24, 25, 26, 27, 28, 29, 30, 31, 51] [[], [0], [1], [2], [], [4], [], [6], [7], [8], [5, 9], [], [10, 11], [], [13], [], [14, 15], [16], [3, 12], [17, 18]] [0, 1, 2, 3, 4, 5, 6, 7, 8, 9, 10, 11, 12, 13, 14, 15, 16, 17, 18, 19] 20 (by kernel_rfl) ⟨eqV_stays _, eqV_stays _, eqV_stays _, eqV_stays _, eqV_stays _, eqV_stays _, eqV_stays _, eqV_stays _, eqV_stays _, eqV_stays _, eqV_stays _, eqV_stays _, eqV_stays _, eqV_stays _, eqV_stays _, eqV_stays _, eqV_stays _, eqV_stays _, eqV_stays _, fun _ _ _ p b => row_keep p b, trivial⟩ ⟨⟨.inl (eqV_stays _), .inl (eqV_stays _), .inl (eqV_stays _), .inl (eqV_stays _), .inl (eqV_stays _), .inl (eqV_stays _), .inl (eqV_stays _), .inl (eqV_stays _), .inl (eqV_stays _), .inl (eqV_stays _), .inl (eqV_stays _), .inl (eqV_stays _), .inl (eqV_stays _), .inl (eqV_stays _), .inl (eqV_stays _), .inl (eqV_stays _), .inl (eqV_stays _), .inl (eqV_stays _), .inl (eqV_stays _), .inr (.inr rfl), trivial⟩, trivial⟩ ⟨fun _ _ p b => row_keep p b, fun _ _ p b => row_keep p b, fun _ _ p b => row_keep p b, fun _ _ p b => row_keep p b, fun _ _ p b => RdAt.below p b, fun _ _ p b => row_keep p b, fun _ _ p b => grownB p b, trivial⟩ ⟨⟨.inr (.inl (by kernel_rfl)), .inr (.inl (by kernel_rfl)), .inr (.inl (by kernel_rfl)), .inr (.inl (by kernel_rfl)), .inr (.inl (by kernel_rfl)), .inr (.inr rfl), .inl (fun _ _ p g => World.grownBy.trans p g), trivial⟩, trivial⟩ ⟨hrow4, hbox4, hrow4, hbox4, hrd4, hb4, hB4, trivial⟩ 32 rfl (by kernel_rfl) (by kernel_rfl) rfl rfl 20 rfl ?q1obl ?q1fin
      case q1obl =>
        refine And.intro ?q1o0 (And.intro ?q1o1 (And.intro ?q1o2 (And.intro ?q1o3 (And.intro ?q1o4 (And.intro ?q1o5 (And.intro ?q1o6 (And.intro ?q1o7 (And.intro ?q1o8 (And.intro ?q1o9 (And.intro ?q1o10 (And.intro ?q1o11 (And.intro ?q1o12 (And.intro ?q1o13 (And.intro ?q1o14 (And.intro ?q1o15 (And.intro ?q1o16 (And.intro ?q1o17 (And.intro ?q1o18 (And.intro ?q1o19 (True.intro))))))))))))))))))))
        case q1o0 =>
          intro w1 hI
          refine turn2_on (by rfl) ?_
          intro K hK
          go_simp
          refine hK _ _ ⟨rfl, Kept.refl _, ?_⟩
          show _ = _
          simp only [List.getD_cons_zero, List.getD_cons_succ, Array.getD_eq_getD_getElem?, List.getElem?_toArray, List.getElem?_cons_zero, List.getElem?_cons_succ, Option.getD_some]
          rfl
        case q1o1 =>
          intro w1 hI
          intro v0 h0
          change _ = _ at h0
          subst v0
          refine turn2_on (by rfl) ?_
          intro K hK
          simp only [List.getD_cons_zero, List.getD_cons_succ, List.setIfInBounds_toArray, List.set_cons_zero, List.set_cons_succ]
          go_simp
          refine hK _ _ ⟨rfl, Kept.refl _, ?_⟩
          show _ = _
          simp only [List.getD_cons_zero, List.getD_cons_succ, Array.getD_eq_getD_getElem?, List.getElem?_toArray, List.getElem?_cons_zero, List.getElem?_cons_succ, Option.getD_some]
          rfl
        case q1o2 =>
          intro w1 hI
          intro v1 h1
          change _ = _ at h1
          subst v1
          refine turn2_on (by rfl) ?_
          intro K hK
          simp only [List.getD_cons_zero, List.getD_cons_succ, List.setIfInBounds_toArray, List.set_cons_zero, List.set_cons_succ]
          go_simp
          refine hK _ _ ⟨rfl, Kept.refl _, ?_⟩
          show _ = _
          simp only [List.getD_cons_zero, List.getD_cons_succ, Array.getD_eq_getD_getElem?, List.getElem?_toArray, List.getElem?_cons_zero, List.getElem?_cons_succ, Option.getD_some]
          rfl
        case q1o3 =>
          intro w1 hI
          replace hI : (fun w => w.heap[r]? = some (.cells #[.int .i64 N, .int .i64 n9, .slice (some ⟨bb, 0, none⟩) F F, lv, .bool st.off, .int .i64 st.armed, kv, .int .i64 st.writes, .int .i64 st.reads] 61 (0, 0))) w1 := hI
          intro v2 h2
          change _ = _ at h2
          subst v2
          refine turn2_on (by rfl) ?_
          intro K hK
          simp only [List.getD_cons_zero, List.getD_cons_succ, List.setIfInBounds_toArray, List.set_cons_zero, List.set_cons_succ]
          obtain ⟨c0, c1, c2, c3, c4, c5, c6, c7, c8, cf⟩ := cellsD hI
          go_simp
          refine hK _ _ ⟨rfl, Kept.refl _, ?_⟩
          show _ = _
          simp only [List.getD_cons_zero, List.getD_cons_succ, Array.getD_eq_getD_getElem?, List.getElem?_toArray, List.getElem?_cons_zero, List.getElem?_cons_succ, Option.getD_some]
          rfl
        case q1o4 =>
          intro w1 hI
          refine turn2_on (by rfl) ?_
          intro K hK
          go_simp
          refine hK _ _ ⟨rfl, Kept.refl _, ?_⟩
          show _ = _
          simp only [List.getD_cons_zero, List.getD_cons_succ, Array.getD_eq_getD_getElem?, List.getElem?_toArray, List.getElem?_cons_zero, List.getElem?_cons_succ, Option.getD_some]
          rfl
        case q1o5 =>
          intro w1 hI
          replace hI : (fun w => w.heap[tb]? = some (.cells #[.int .i64 (s : Int), .slice (some ⟨b9, o9, none⟩) n9 c9] 85 (0, 0))) w1 := hI
          intro v4 h4
          change _ = _ at h4
          subst v4
          refine turn2_on (by rfl) ?_
          intro K hK
          simp only [List.getD_cons_zero, List.getD_cons_succ, List.setIfInBounds_toArray, List.set_cons_zero, List.set_cons_succ]
          obtain ⟨t50, t51⟩ := cells2 hI
          go_simp
          refine hK _ _ ⟨rfl, Kept.refl _, ?_⟩
          show _ = _
          simp only [List.getD_cons_zero, List.getD_cons_succ, Array.getD_eq_getD_getElem?, List.getElem?_toArray, List.getElem?_cons_zero, List.getElem?_cons_succ, Option.getD_some]
          rfl
        case q1o6 =>
          intro w1 hI
          refine turn2_on (by rfl) ?_
          intro K hK
          go_simp
          refine hK _ _ ⟨rfl, Kept.refl _, ?_⟩
          show _ = _
          simp only [List.getD_cons_zero, List.getD_cons_succ, Array.getD_eq_getD_getElem?, List.getElem?_toArray, List.getElem?_cons_zero, List.getElem?_cons_succ, Option.getD_some]
          rfl
        case q1o7 =>
          intro w1 hI
          intro v6 h6
          change _ = _ at h6
          subst v6
          refine turn2_on (by rfl) ?_
          intro K hK
          simp only [List.getD_cons_zero, List.getD_cons_succ, List.setIfInBounds_toArray, List.set_cons_zero, List.set_cons_succ]
          go_simp
          refine hK _ _ ⟨rfl, Kept.refl _, ?_⟩
          show _ = _
          simp only [List.getD_cons_zero, List.getD_cons_succ, Array.getD_eq_getD_getElem?, List.getElem?_toArray, List.getElem?_cons_zero, List.getElem?_cons_succ, Option.getD_some]
          rfl
        case q1o8 =>
          intro w1 hI
          intro v7 h7
          change _ = _ at h7
          subst v7
          refine turn2_on (by rfl) ?_
          intro K hK
          simp only [List.getD_cons_zero, List.getD_cons_succ, List.setIfInBounds_toArray, List.set_cons_zero, List.set_cons_succ]
          go_simp
          refine hK _ _ ⟨rfl, Kept.refl _, ?_⟩
          show _ = _
          simp only [List.getD_cons_zero, List.getD_cons_succ, Array.getD_eq_getD_getElem?, List.getElem?_toArray, List.getElem?_cons_zero, List.getElem?_cons_succ, Option.getD_some]
          rfl
        case q1o9 =>
          intro w1 hI
          replace hI : (fun w => w.heap[r]? = some (.cells #[.int .i64 N, .int .i64 n9, .slice (some ⟨bb, 0, none⟩) F F, lv, .bool st.off, .int .i64 st.armed, kv, .int .i64 st.writes, .int .i64 st.reads] 61 (0, 0))) w1 := hI
          intro v8 h8
          change _ = _ at h8
          subst v8
          refine turn2_on (by rfl) ?_
          intro K hK
          simp only [List.getD_cons_zero, List.getD_cons_succ, List.setIfInBounds_toArray, List.set_cons_zero, List.set_cons_succ]
          obtain ⟨c0, c1, c2, c3, c4, c5, c6, c7, c8, cf⟩ := cellsD hI
          go_simp
          refine hK _ _ ⟨rfl, Kept.refl _, ?_⟩
          show _ = _
          simp only [List.getD_cons_zero, List.getD_cons_succ, Array.getD_eq_getD_getElem?, List.getElem?_toArray, List.getElem?_cons_zero, List.getElem?_cons_succ, Option.getD_some]
          rfl
        case q1o10 =>
          intro w1 hI
          intro v5 h5
          change _ = _ at h5
          subst v5
          intro v9 h9
          change _ = _ at h9
          subst v9
          refine turn2_on (by rfl) ?_
          intro K hK
          simp only [List.getD_cons_zero, List.getD_cons_succ, List.setIfInBounds_toArray, List.set_cons_zero, List.set_cons_succ]
          go_simp
          refine hK _ _ ⟨rfl, Kept.refl _, ?_⟩
          show _ = _
          simp only [List.getD_cons_zero, List.getD_cons_succ, Array.getD_eq_getD_getElem?, List.getElem?_toArray, List.getElem?_cons_zero, List.getElem?_cons_succ, Option.getD_some]
          rfl
        case q1o11 =>
          intro w1 hI
          refine turn2_on (by rfl) ?_
          intro K hK
          go_simp
          refine hK _ _ ⟨rfl, Kept.refl _, ?_⟩
          show _ = _
          simp only [List.getD_cons_zero, List.getD_cons_succ, Array.getD_eq_getD_getElem?, List.getElem?_toArray, List.getElem?_cons_zero, List.getElem?_cons_succ, Option.getD_some]
          rfl
        case q1o12 =>
          intro w1 hI
          intro v10 h10
          change _ = _ at h10
          subst v10
          intro v11 h11
          change _ = _ at h11
          subst v11
          refine turn2_on (by rfl) ?_
          intro K hK
          simp only [List.getD_cons_zero, List.getD_cons_succ, List.setIfInBounds_toArray, List.set_cons_zero, List.set_cons_succ]
          go_simp
          refine hK _ _ ⟨rfl, Kept.refl _, ?_⟩
          show _ = _
          simp only [List.getD_cons_zero, List.getD_cons_succ, Array.getD_eq_getD_getElem?, List.getElem?_toArray, List.getElem?_cons_zero, List.getElem?_cons_succ, Option.getD_some]
          rfl
        case q1o13 =>
          intro w1 hI
          refine turn2_on (by rfl) ?_
          intro K hK
          go_simp
          refine hK _ _ ⟨rfl, Kept.refl _, ?_⟩
          show _ = _
          simp only [List.getD_cons_zero, List.getD_cons_succ, Array.getD_eq_getD_getElem?, List.getElem?_toArray, List.getElem?_cons_zero, List.getElem?_cons_succ, Option.getD_some]
          rfl
        case q1o14 =>
          intro w1 hI
          replace hI : (fun w => w.heap[tb]? = some (.cells #[.int .i64 (s : Int), .slice (some ⟨b9, o9, none⟩) n9 c9] 85 (0, 0))) w1 := hI
          intro v13 h13
          change _ = _ at h13
          subst v13
          refine turn2_on (by rfl) ?_
          intro K hK
          simp only [List.getD_cons_zero, List.getD_cons_succ, List.setIfInBounds_toArray, List.set_cons_zero, List.set_cons_succ]
          obtain ⟨t50, t51⟩ := cells2 hI
          go_simp
          refine hK _ _ ⟨rfl, Kept.refl _, ?_⟩
          show _ = _
          simp only [List.getD_cons_zero, List.getD_cons_succ, Array.getD_eq_getD_getElem?, List.getElem?_toArray, List.getElem?_cons_zero, List.getElem?_cons_succ, Option.getD_some]
          rfl
        case q1o15 =>
          intro w1 hI
          refine turn2_on (by rfl) ?_
          intro K hK
          go_simp
          refine hK _ _ ⟨rfl, Kept.refl _, ?_⟩
          show _ = _
          simp only [List.getD_cons_zero, List.getD_cons_succ, Array.getD_eq_getD_getElem?, List.getElem?_toArray, List.getElem?_cons_zero, List.getElem?_cons_succ, Option.getD_some]
          rfl
        case q1o16 =>
          intro w1 hI
          intro v14 h14
          change _ = _ at h14
          subst v14
          intro v15 h15
          change _ = _ at h15
          subst v15
          refine turn2_on (by rfl) ?_
          intro K hK
          simp only [List.getD_cons_zero, List.getD_cons_succ, List.setIfInBounds_toArray, List.set_cons_zero, List.set_cons_succ]
          go_simp
          refine hK _ _ ⟨rfl, Kept.refl _, ?_⟩
          show _ = _
          simp only [List.getD_cons_zero, List.getD_cons_succ, Array.getD_eq_getD_getElem?, List.getElem?_toArray, List.getElem?_cons_zero, List.getElem?_cons_succ, Option.getD_some]
          rfl
        case q1o17 =>
          intro w1 hI
          replace hI : (fun w => RdAt .u8 w (some ⟨b9, o9, none⟩) n9 c9 l) w1 := hI
          intro v16 h16
          change _ = _ at h16
          subst v16
          refine turn2_on (by rfl) ?_
          intro K hK
          simp only [List.getD_cons_zero, List.getD_cons_succ, List.setIfInBounds_toArray, List.set_cons_zero, List.set_cons_succ]
          obtain ⟨b5, o5, e5, h5c⟩ := hI.cell i HIN.out
          injection e5 with e5
          injection e5 with e5 e6
          subst e5 e6
          go_simp
          refine hK _ _ ⟨rfl, Kept.refl _, ?_⟩
          show _ = _
          simp only [List.getD_cons_zero, List.getD_cons_succ, Array.getD_eq_getD_getElem?, List.getElem?_toArray, List.getElem?_cons_zero, List.getElem?_cons_succ, Option.getD_some]
          rfl
        case q1o18 =>
          intro w1 hI
          intro v3 h3
          change _ = _ at h3
          subst v3
          intro v12 h12
          change _ = _ at h12
          subst v12
          refine turn2_on (by rfl) ?_
          intro K hK
          simp only [List.getD_cons_zero, List.getD_cons_succ, List.setIfInBounds_toArray, List.set_cons_zero, List.set_cons_succ]
          go_simp
          refine hK _ _ ⟨rfl, Kept.refl _, ?_⟩
          show _ = _
          simp only [List.getD_cons_zero, List.getD_cons_succ, Array.getD_eq_getD_getElem?, List.getElem?_toArray, List.getElem?_cons_zero, List.getElem?_cons_succ, Option.getD_some]
          rfl
        case q1o19 =>
          intro w1 hI
          replace hI : (fun w => w.heap[bb]? = some (.cells ((lay st.kept.flatten lo l i).map (Value.int .u8)).toArray 5 (0, 0))) w1 := hI
          intro v17 h17
          change _ = _ at h17
          subst v17
          intro v18 h18
          change _ = _ at h18
          subst v18
          refine turn2_on (by rfl) ?_
          intro K hK
          simp only [List.getD_cons_zero, List.getD_cons_succ, List.setIfInBounds_toArray, List.set_cons_zero, List.set_cons_succ]
          have hkc : w1.cell? ⟨bb, lo + i, none⟩ = some (.int .u8 (nth (lay st.kept.flatten lo l i) (lo + i))) := by rw [cell_of_row w1 _ _ _ _ _ hI]; simp [nth_eq HLI.out, HLI.out]
          have hkf := frozen_of_row w1 _ (lo + i) _ _ hI
          go_simp
          refine hK _ _ ⟨rfl, put_grown _ _ _ _, ?_⟩
          show (w1.setCell ⟨bb, lo + i, none⟩ _).heap[bb]? = _
          rw [heap_setCell_same _ bb (lo + i) _ _ _ hI, HNX.out]
          simp
      intro w1 hI
      replace hI : (fun w => World.grownBy wr w (some bb)) w1 := hI
      intro v0 h0
      change _ = _ at h0
      subst v0
      intro v1 h1
      change _ = _ at h1
      subst v1
      intro v2 h2
      change _ = _ at h2
      subst v2
      intro v3 h3
      change _ = _ at h3
      subst v3
      intro v4 h4
      change _ = _ at h4
      subst v4
      intro v5 h5
      change _ = _ at h5
      subst v5
      intro v6 h6
      change _ = _ at h6
      subst v6
      intro v7 h7
      change _ = _ at h7
      subst v7
      intro v8 h8
      change _ = _ at h8
      subst v8
      intro v9 h9
      change _ = _ at h9
      subst v9
      intro v10 h10
      change _ = _ at h10
      subst v10
      intro v11 h11
      change _ = _ at h11
      subst v11
      intro v12 h12
      change _ = _ at h12
      subst v12
      intro v13 h13
      change _ = _ at h13
      subst v13
      intro v14 h14
      change _ = _ at h14
      subst v14
      intro v15 h15
      change _ = _ at h15
      subst v15
      intro v16 h16
      change _ = _ at h16
      subst v16
      intro v17 h17
      change _ = _ at h17
      subst v17
      intro v18 h18
      change _ = _ at h18
      subst v18
      intro v19 h19
      simp only [Given, List.getD_cons_zero, List.getD_cons_succ, List.setIfInBounds_toArray, List.set_cons_zero, List.set_cons_succ]
      have HB9 := Lib.hid h19
      have HG9 : Hid (w2.grownBy w1 (some bb)) := HG.out.trans hI
      clear hI h19 hrow4 hbox4 hrd4 hb4 hB4 g1 g2 g3 g4 g5 g6 g7 c0 c1 c2 c3 c4 c5 c6 c7 c8 cf
      go_wp2_with fail
      go_roundw
      case rel => exact ⟨i + 1, by omega, by go_num, HB9, HG9⟩
      case measure => simp [intOf] <;> omega
    · obtain rfl : i = n9 := by omega
      go_wp2_with fail
      go_end0
      have hG : w.grownBy wr (some bb) := ⟨HG.out.os.trans HB2.out.os, HG.out.tape.trans HB2.out.tape, HG.out.output.trans HB2.out.output, Nat.le_trans HB2.out.size HG.out.size, fun x hx hne => by
        rw [HG.out.block x (Nat.lt_of_lt_of_le hx HB2.out.size) hne]; exact HB2.out.block x hx⟩
      have hfs : (st.kept.set s l).flatten = lay st.kept.flatten lo l i := by
        rw [flatten_set _ _ _ i (by rw [← HZZ.out]; exact P.out.ok.kept) HL.out (by rw [HN.out]; exact hs), HLO.out]
      have hfl : (lay st.kept.flatten lo l i).length = F := by rw [lay_len (by rw [HL.out, HF.out]; exact hfit) (by rw [HL.out]; omega), HF.out]
      have hmut : ∀ x, Z x → ¬ MutR r bb lv x → wr.heap[x]? = w.heap[x]? := fun x hx hm => hG.block x (hz x hx) (fun e => hm (.inr (.inl (Option.some.inj e))))
      refine ⟨rfl, ⟨?_, ?_, ?_, ?_, ?_, ?_, hne, P.out.rm, P.out.z, ⟨P.out.ok.size, ?_, fun x hx => ?_, fun q hq => ?_, P.out.ok.armed, P.out.ok.few, P.out.ok.writes, P.out.ok.reads⟩⟩, hG⟩
      · show wr.heap[r]? = some (.cells #[.int .i64 (st.kept.set s l).length, .int .i64 st.size, .slice (some ⟨bb, 0, none⟩) (st.kept.set s l).flatten.length (st.kept.set s l).flatten.length, lv, .bool st.off, .int .i64 st.armed, kv, .int .i64 st.writes, .int .i64 st.reads] 61 (0, 0))
        rw [hfs, hfl, List.length_set, HN.out, HZZ.out]
        exact hrow4
      · show wr.heap[bb]? = some (.cells ((st.kept.set s l).flatten.map (Value.int .u8)).toArray 5 (0, 0))
        rw [hfs]
        exact HB.out
      · intro x hx
        obtain ⟨y, hy, hxy⟩ := List.mem_flatten.1 (show x ∈ (st.kept.set s l).flatten from hx)
        rcases List.mem_or_eq_of_mem_set hy with h | h
        · exact P.out.bwf x (List.mem_flatten.2 ⟨y, h, hxy⟩)
        · rw [h] at hxy; exact HR.out.wf x hxy
      · exact ownsRow_at P.out.prow (fun g hg => hG.block g (hz g (P.out.z g (.inr (.inr hg)))) (fun e => (P.out.rm g hg).2 (Option.some.inj e)))
      · exact P.out.pvals.imp fun v l h => h.at hmut (fun _ _ h => h) (fun _ h => h)
      · exact P.out.keep.at hmut (fun _ _ h => h) (fun _ h => h)
      · show 1 ≤ (st.kept.set s l).length ∧ (st.kept.set s l).length ≤ 65536
        rw [List.length_set]; exact P.out.ok.n
      · rcases List.mem_or_eq_of_mem_set (show x ∈ st.kept.set s l from hx) with h | h
        · exact P.out.ok.kept x h
        · rw [h, HL.out]; exact HZZ.out.symm
      · have := P.out.ok.pend q hq
        refine ⟨this.1, this.2.1, ?_⟩
        show q.1 < ((st.kept.set s l).length : Int)
        rw [List.length_set]
        exact this.2.2
end Go.Proofs.Ytpgncmoagmkcmaa
