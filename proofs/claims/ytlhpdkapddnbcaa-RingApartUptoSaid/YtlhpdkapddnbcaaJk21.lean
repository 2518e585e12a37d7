/- ring: a step: Append that is cut. ring: a step: Truncate. -/
import Derived.Test.YtlhpdkapddnbcaaJk0
import Derived.Deep.CutBlock
import Derived.Deep.DeepCutAuto
import Derived.Test.YtlhpdkapddnbcaaJk18
namespace Go.Proofs.Ytlhpdkapddnbcaa
open Go.RowKit
set_option linter.unusedSimpArgs false in
set_option linter.unusedVariables false in
set_option maxRecDepth 100000 in
set_option maxHeartbeats 4000000 in
theorem step_appcut (C : PlC) (OK : C.Ok) (w0 w : World) (Q : Nat → Prop) (i r : Nat) (st : Dk) (J : Jr) (L : List (List Int)) (a : Option Addr) (m c : Nat) (mv : Value) (may : Bool) (ma : Int) (hp : PlR C w0 w Q i r st J L ⟨.pointer (some ⟨r, 0, none⟩), .slice a m c, mv, may, ma, J.h.first, L⟩) (hi : i ≤ 900) (op N : Int) (ba : Option Addr) (bn bc : Nat) (B : List Int) (ka : Option Addr) (kn kc : Nat) (kl : List Bool) (hB : RdAt .u8 w0 ba bn bc B) (hK : RdB w0 ka kn kc kl) (hbn : bn ≤ 1000000) (hkn : kn ≤ 1000000) (hN0 : 0 ≤ N) (hN1 : N ≤ 100) (h1 : op = 1) (hf : ¬ roomN J < bn) (hw : ¬ (st.armed = 0 ∨ ((ndN J.size B.length : Nat) : Int) + 1 < st.armed)) :
    Calls Try.prog 25 #[.pointer (some ⟨C.g, 0, none⟩), .agg #[.int .i64 op, .slice ba bn bc, .int .i64 N, .slice ka kn kc]] w fun e w' => e = .returned (.bool true) ∧ ∃ L', PlS C w0 w' (i + 2) L' := by
  obtain ⟨a', m', c', e1, e2⟩ := hp.rows
  injection e1 with e10 e11 e12
  subst e10 e11 e12
  have hm60 : m ≤ 60 := by rw [← e2.len]; exact hp.len60 OK
  have HLM : Hid (L.length = m) := e2.len
  clear e2
  have hba : Below w.heap.size w (w.alloc ((.cells #[.int .i64 op, .slice ba bn bc, .int .i64 N, .slice ka kn kc] 63))) := (Below.refl _ _).alloc (Nat.le_refl _) _
  have hbx : (w.alloc ((.cells #[.int .i64 op, .slice ba bn bc, .int .i64 N, .slice ka kn kc] 63))).heap[w.heap.size]? = some (.cells #[.int .i64 op, .slice ba bn bc, .int .i64 N, .slice ka kn kc] 63 (0, 0)) := heap_alloc_new _ _
  have hxq : ¬ Q w.heap.size := fun h => Nat.lt_irrefl _ (hp.ri.lt _ h)
  have hxg : C.g ≠ w.heap.size := by have := hp.glt; omega
  have hp1 := hp.more hba
  obtain ⟨x, hx⟩ : ∃ x, w.heap.size = x := ⟨_, rfl⟩
  rw [hx] at hbx hxq hxg
  have d1 : (op == 1) = true := by rw [h1]; rfl
  clear h1
  have HNQ : Hid (∀ y, ba = some y → 0 < bn → ¬ Q y.block) := fun y hy h0 hq => by have h1 := rd_ltR hB y hy h0; have h2 := hp.base _ hq; omega
  have d5 : decide (roomN J < (bn : Int)) = false := decide_eq_false hf
  have HWH := Lib.hid hw
  have HNF := Lib.hid hf
  clear hw hf
  obtain ⟨ew1, ew2⟩ := hp.lenW HLM.out
  have dd0 : (J.h.next != J.h.next) = false := by simp
  go_enter Try.func25, Try.ntmps25
  go_upto_region 1 with fail
  obtain ⟨wA, hwA⟩ : ∃ wA, w.alloc ((.cells #[.int .i64 op, .slice ba bn bc, .int .i64 N, .slice ka kn kc] 63)) = wA := ⟨_, rfl⟩
  rw [hwA] at hbx hp1 ⊢
  have HBX := Lib.hid hbx
  have PA := Lib.hid hp1
  have hxA : x < wA.heap.size := (Array.getElem?_eq_some_iff.1 hbx).1
  clear hba hwA hp hp1
  obtain ⟨b0, b1, b2, b3⟩ := cells4 hbx
  clear hbx
  obtain ⟨y0, y1, y2, y3, y4, y5, y6, y7, y8, yf⟩ := plcells PA.out.row
  go_wp2_with (first | (go_at_call 11; refine PA.out.room.mono ?_; rintro e w3 ⟨rfl, rfl⟩))
  clear y0 y1 y2 y3 y4 y5 y6 y7 y8 yf
  refine' reg_order [eqV _, eqV _, eqV _, eqV _, eqV _, eqV _, fun v w => v = Value.tuple #[Value.int .u64 0, Value.int .i64 8] ∧ w.heap[x]? = some (.cells #[.int .i64 op, .slice ba bn bc, .int .i64 N, .slice ka kn kc] 63 (0, 0)) ∧ ∃ Z st', PlD C w0 w Z (i + 1) st' J.h L ⟨.pointer (some ⟨r, 0, none⟩), .slice a m c, mv, may, ma, J.h.first, L⟩ ∧ st'.off = true, eqV _, eqV _, eqV _, eqV _, eqV _] [(6, fun w w' => True)] [(3, fun w => PlR C w0 w Q i r st J L ⟨.pointer (some ⟨r, 0, none⟩), .slice a m c, mv, may, ma, J.h.first, L⟩), (5, fun w => w.heap[x]? = some (.cells #[.int .i64 op, .slice ba bn bc, .int .i64 N, .slice ka kn kc] 63 (0, 0))), (6, fun w => PlR C w0 w Q i r st J L ⟨.pointer (some ⟨r, 0, none⟩), .slice a m c, mv, may, ma, J.h.first, L⟩ ∧ w.heap[x]? = some (.cells #[.int .i64 op, .slice ba bn bc, .int .i64 N, .slice ka kn kc] 63 (0, 0)))] [22, 23, 24, 25, 26, 27, 28, 21, 29, 30, 6, 7] [[], [0], [1], [2], [], [4], [3, 5], [6], [7], [7], [8], [9]] [0, 1, 2, 3, 4, 5, 6, 7, 8, 9, 10, 11] 12 (by kernel_rfl) ⟨eqV_stays _, eqV_stays _, eqV_stays _, eqV_stays _, eqV_stays _, eqV_stays _, fun _ _ _ p b => ⟨p.1, row_keep p.2.1 b, p.2.2.elim fun Z q => q.elim fun st' q => ⟨Z, st', q.1.more b, q.2⟩⟩, eqV_stays _, eqV_stays _, eqV_stays _, eqV_stays _, eqV_stays _, trivial⟩ ⟨⟨.inl (eqV_stays _), .inl (eqV_stays _), .inl (eqV_stays _), .inl (eqV_stays _), .inl (eqV_stays _), .inl (eqV_stays _), .inr (.inr rfl), .inl (eqV_stays _), .inl (eqV_stays _), .inl (eqV_stays _), .inl (eqV_stays _), .inl (eqV_stays _), trivial⟩, trivial⟩ ⟨fun _ _ p b => p.more b, fun _ _ p b => row_keep p b, fun _ _ p b => ⟨p.1.more b, row_keep p.2 b⟩, trivial⟩ ⟨⟨.inr (.inl (by kernel_rfl)), .inr (.inl (by kernel_rfl)), .inr (.inr rfl), trivial⟩, trivial⟩ ⟨PA.out.drew, HBX.out, ⟨PA.out.drew, HBX.out⟩, trivial⟩ 230 rfl (by kernel_rfl) (by kernel_rfl) rfl rfl 12 rfl ?q1obl ?q1fin
  case q1obl =>
    refine And.intro ?q1o0 (And.intro ?q1o1 (And.intro ?q1o2 (And.intro ?q1o3 (And.intro ?q1o4 (And.intro ?q1o5 (And.intro ?q1o6 (And.intro ?q1o7 (And.intro ?q1o8 (And.intro ?q1o9 (And.intro ?q1o10 (And.intro ?q1o11 (True.intro))))))))))))
    case q1o0 =>
      intro w1 hI
      refine turn2_on (by rfl) ?_
      intro K hK
      go_simp
      refine hK _ _ ⟨rfl, Kept.refl _, ?_⟩
      show _ = _
      simp only [gv1]
      rfl
    case q1o1 =>
      intro w1 hI
      intro v0 h0
      change _ = _ at h0
      subst v0
      refine turn2_on (by rfl) ?_
      intro K hK
      simp only [gv2]
      go_simp
      refine hK _ _ ⟨rfl, Kept.refl _, ?_⟩
      show _ = _
      simp only [gv1]
      rfl
    case q1o2 =>
      intro w1 hI
      intro v1 h1
      change _ = _ at h1
      subst v1
      refine turn2_on (by rfl) ?_
      intro K hK
      simp only [gv2]
      go_simp
      refine hK _ _ ⟨rfl, Kept.refl _, ?_⟩
      show _ = _
      simp only [gv1]
      rfl
    case q1o3 =>
      intro w1 hI
      replace hI : (fun w => PlR C w0 w Q i r st J L ⟨.pointer (some ⟨r, 0, none⟩), .slice a m c, mv, may, ma, J.h.first, L⟩) w1 := hI
      intro v2 h2
      change _ = _ at h2
      subst v2
      refine turn2_on (by rfl) ?_
      intro K hK
      simp only [gv2]
      obtain ⟨y0, y1, y2, y3, y4, y5, y6, y7, y8, yf⟩ := plcells hI.row
      go_simp
      refine hK _ _ ⟨rfl, Kept.refl _, ?_⟩
      show _ = _
      simp only [gv1]
      rfl
    case q1o4 =>
      intro w1 hI
      refine turn2_on (by rfl) ?_
      intro K hK
      go_simp
      refine hK _ _ ⟨rfl, Kept.refl _, ?_⟩
      show _ = _
      simp only [gv1]
      rfl
    case q1o5 =>
      intro w1 hI
      replace hI : (fun w => w.heap[x]? = some (.cells #[.int .i64 op, .slice ba bn bc, .int .i64 N, .slice ka kn kc] 63 (0, 0))) w1 := hI
      intro v4 h4
      change _ = _ at h4
      subst v4
      refine turn2_on (by rfl) ?_
      intro K hK
      simp only [gv2]
      obtain ⟨z0, z1, z2, z3⟩ := cells4 hI
      go_simp
      refine hK _ _ ⟨rfl, Kept.refl _, ?_⟩
      show _ = _
      simp only [gv1]
      rfl
    case q1o6 =>
      intro w1 hI
      replace hI : (fun w => PlR C w0 w Q i r st J L ⟨.pointer (some ⟨r, 0, none⟩), .slice a m c, mv, may, ma, J.h.first, L⟩ ∧ w.heap[x]? = some (.cells #[.int .i64 op, .slice ba bn bc, .int .i64 N, .slice ka kn kc] 63 (0, 0))) w1 := hI
      intro v3 h3
      change _ = _ at h3
      subst v3
      intro v5 h5
      change _ = _ at h5
      subst v5
      refine turn2_on (by rfl) ?_
      intro K hK
      simp only [gv2]
      go_simp
      refine Calls.mono (PlR.append OK hI.1 (by omega) ba bn bc B (hB.below hI.1.below) HNQ.out (by have := HNF.out; omega)) ?_
      rintro e w2 ⟨_, hh⟩
      obtain ⟨rfl, Q', st', ht, Z, hpd, hoff, _⟩ := hh HWH.out
      refine hK _ _ ⟨rfl, trivial, ?_⟩
      show _ = Value.tuple #[Value.int .u64 0, Value.int .i64 8] ∧ w2.heap[x]? = some (.cells #[.int .i64 op, .slice ba bn bc, .int .i64 N, .slice ka kn kc] 63 (0, 0)) ∧ ∃ Z st', PlD C w0 w2 Z (i + 1) st' J.h L ⟨.pointer (some ⟨r, 0, none⟩), .slice a m c, mv, may, ma, J.h.first, L⟩ ∧ st'.off = true
      simp only [gv1]
      exact ⟨trivial, (ht.block x (Array.getElem?_eq_some_iff.1 hI.2).1 hxq).trans hI.2, Z, st', hpd, hoff⟩
    case q1o7 =>
      intro w1 hI
      intro v6 h6
      obtain ⟨rfl, gx6, g6⟩ := h6
      refine turn2_on (by rfl) ?_
      intro K hK
      simp only [gv2]
      go_simp
      refine hK _ _ ⟨rfl, Kept.refl _, ?_⟩
      show _ = _
      simp only [gv1]
      rfl
    case q1o8 =>
      intro w1 hI
      intro v7 h7
      change _ = _ at h7
      subst v7
      refine turn2_on (by rfl) ?_
      intro K hK
      simp only [gv2]
      go_simp
      refine hK _ _ ⟨rfl, Kept.refl _, ?_⟩
      show _ = _
      simp only [gv1]
      rfl
    case q1o9 =>
      intro w1 hI
      intro v7 h7
      change _ = _ at h7
      subst v7
      refine turn2_on (by rfl) ?_
      intro K hK
      simp only [gv2]
      go_simp
      refine hK _ _ ⟨rfl, Kept.refl _, ?_⟩
      show _ = _
      simp only [gv1]
      rfl
    case q1o10 =>
      intro w1 hI
      intro v8 h8
      change _ = _ at h8
      subst v8
      refine turn2_on (by rfl) ?_
      intro K hK
      simp only [gv2]
      go_simp
      refine hK _ _ ⟨rfl, Kept.refl _, ?_⟩
      show _ = _
      simp only [gv1]
      rfl
    case q1o11 =>
      intro w1 hI
      intro v9 h9
      change _ = _ at h9
      subst v9
      refine turn2_on (by rfl) ?_
      intro K hK
      simp only [gv2]
      go_simp
      refine hK _ _ ⟨rfl, Kept.refl _, ?_⟩
      show _ = _
      simp only [gv1]
      rfl
  intro w9 hI
  intro v0 h0
  change _ = _ at h0
  subst v0
  intro v1 h1
  change _ = _ at h1
  subst v1
  intro v2 h2
  change _ = _ at h2
  subst v2
  intro v3 h3
  change _ = _ at h3
  subst v3
  intro v4 h4
  change _ = _ at h4
  subst v4
  intro v5 h5
  change _ = _ at h5
  subst v5
  intro v6 h6
  obtain ⟨rfl, gx6, g6⟩ := h6
  intro v7 h7
  change _ = _ at h7
  subst v7
  intro v8 h8
  change _ = _ at h8
  subst v8
  intro v9 h9
  change _ = _ at h9
  subst v9
  intro v10 h10
  change _ = _ at h10
  subst v10
  intro v11 h11
  change _ = _ at h11
  subst v11
  simp only [Given, gv2]
  obtain ⟨Z, st2, hp9, hoff⟩ := g6
  have P9 := Lib.hid hp9
  obtain ⟨z0, z1, z2, z3⟩ := cells4 gx6
  obtain ⟨y0, y1, y2, y3, y4, y5, y6, y7, y8, yf⟩ := plcells hp9.row
  have HC4 := Lib.hid y4
  have HX1 := Lib.hid z1
  obtain ⟨a9, m9, c9, e9, hrw9⟩ := hp9.rows
  injection e9 with e90 e91 e92
  subst e90 e91 e92
  have HROWS := Lib.hid hrw9
  have HB9 : Hid (RdAt .u8 w9 ba bn bc B) := hB.below hp9.below
  have HNP : Hid (∀ y, ba = some y → 0 < bn → ¬ (Z y.block ∨ y.block = C.g)) := fun y hy h0 hq => by
    have h1 := rd_ltR hB y hy h0
    rcases hq with hq | hq
    · have h2 := P9.out.base _ hq
      omega
    · have h2 := P9.out.gb
      omega
  have HPL : Hid (∀ k, (Z k ∨ k = C.g) → k < w9.heap.size) := fun k hk => by
    rcases hk with hk | rfl
    · exact P9.out.di.1 k hk
    · exact P9.out.glt
  clear hp9 hrw9 gx6 z0 z1 z2 z3 y0 y1 y2 y3 y4 y5 y6 y7 y8 yf PA HBX
  go_wp2_with fail
  refine' reg_kill [(5, 0), (9, 0), (9, 5), (9, 8)] [fun v w => ∃ b, v = Value.slice (some ⟨b, 0, none⟩) 0 0 ∧ w.heap[b]? = some (.cells #[] 36 (0, 0)) ∧ w9.heap.size ≤ b, eqV _, eqV _, eqV _, eqV _, fun v w => RowsNew w w9.heap.size (fun k => Z k ∨ k = C.g) v L, eqV _, eqV _, fun v w => ∃ q, v = Value.slice (some ⟨q, 0, none⟩) 1 1 ∧ w.heap[q]? = some (.cells #[.slice ba bn bc] 36 (0, 0)), fun v w => RowsNew w w9.heap.size (fun k => Z k ∨ k = C.g) v (L ++ [B]), fun v w => RowsNew w w9.heap.size (fun k => Z k ∨ k = C.g) v (L ++ [B])] [(5, fun w w' => ∃ b, w.grownBy w' (some b) ∧ w.heap[b]? = some (.cells #[] 36 (0, 0)) ∧ w9.heap.size ≤ b), (9, fun w w' => Below w9.heap.size w w')] [(0, fun w => Below w9.heap.size w9 w), (4, fun w => Below w9.heap.size w9 w), (5, fun w => Below w9.heap.size w9 w), (7, fun w => Below w9.heap.size w9 w), (9, fun w => Below w9.heap.size w9 w), (11, fun w => Below w9.heap.size w9 w)] [46, 47, 48, 49, 50, 51, 52, 53, 54, 55, 8] [[], [], [1], [2], [3], [0, 4], [], [6], [7], [5, 8], [9]] [0, 1, 2, 3, 4, 5, 6, 7, 8, 9, 10] 11 (by kernel_rfl) (by kernel_rfl) ⟨fun _ _ _ p b => p.elim fun q s => ⟨q, s.1, row_keep s.2.1 b, s.2.2⟩, eqV_stays _, eqV_stays _, eqV_stays _, eqV_stays _, fun _ _ _ p b => p.more b, eqV_stays _, eqV_stays _, fun _ _ _ p b => p.elim fun q s => ⟨q, s.1, row_keep s.2 b⟩, fun _ _ _ p b => p.more b, fun _ _ _ p b => p.more b, trivial⟩ ⟨⟨.inr (.inr (.inr (by kernel_rfl))), .inl (eqV_stays _), .inl (eqV_stays _), .inl (eqV_stays _), .inl (eqV_stays _), .inr (.inr (.inl rfl)), .inl (eqV_stays _), .inl (eqV_stays _), .inl (fun _ _ _ p b => p.elim fun q s => b.elim fun g z => ⟨q, s.1, (z.1.block q (Array.getElem?_eq_some_iff.1 s.2).1 (fun e => by injection e with e; subst e; have h1 := z.2.1; rw [s.2] at h1; injection h1 with h1; injection h1 with h1 _; exact absurd (congrArg Array.size h1) (by simp))).trans s.2⟩), .inr (.inl (by kernel_rfl)), .inr (.inl (by kernel_rfl)), trivial⟩, ⟨.inr (.inr (.inr (by kernel_rfl))), .inl (eqV_stays _), .inl (eqV_stays _), .inl (eqV_stays _), .inl (eqV_stays _), .inr (.inr (.inr (by kernel_rfl))), .inl (eqV_stays _), .inl (eqV_stays _), .inr (.inr (.inr (by kernel_rfl))), .inr (.inr (.inl rfl)), .inr (.inl (by kernel_rfl)), trivial⟩, trivial⟩ ⟨fun _ _ p b => Below.call p b, fun _ _ p b => Below.call p b, fun _ _ p b => Below.call p b, fun _ _ p b => Below.call p b, fun _ _ p b => Below.call p b, fun _ _ p b => Below.call p b, trivial⟩ ⟨⟨.inr (.inl (by kernel_rfl)), .inr (.inl (by kernel_rfl)), .inr (.inr rfl), .inl (fun _ _ p b => b.elim fun g q => p.grown q.1 p.size (fun y hy => by injection hy with hy; rw [← hy]; exact q.2.2)), .inl (fun _ _ p b => b.elim fun g q => p.grown q.1 p.size (fun y hy => by injection hy with hy; rw [← hy]; exact q.2.2)), .inl (fun _ _ p b => b.elim fun g q => p.grown q.1 p.size (fun y hy => by injection hy with hy; rw [← hy]; exact q.2.2)), trivial⟩, ⟨.inr (.inl (by kernel_rfl)), .inr (.inl (by kernel_rfl)), .inr (.inl (by kernel_rfl)), .inr (.inl (by kernel_rfl)), .inr (.inr rfl), .inl (fun _ _ p b => p.trans b), trivial⟩, trivial⟩ ⟨below_drew (Below.refl _ _), below_drew (Below.refl _ _), below_drew (Below.refl _ _), below_drew (Below.refl _ _), below_drew (Below.refl _ _), below_drew (Below.refl _ _), trivial⟩ 230 rfl (by kernel_rfl) (by kernel_rfl) rfl rfl 11 rfl ?q2obl ?q2fin
  case q2obl =>
    refine And.intro ?q2o0 (And.intro ?q2o1 (And.intro ?q2o2 (And.intro ?q2o3 (And.intro ?q2o4 (And.intro ?q2o5 (And.intro ?q2o6 (And.intro ?q2o7 (And.intro ?q2o8 (And.intro ?q2o9 (And.intro ?q2o10 (True.intro)))))))))))
    case q2o0 =>
      intro w1 hI
      replace hI : (fun w => Below w9.heap.size w9 w) w1 := hI
      refine turn2_on (by rfl) ?_
      intro K hK
      have HI := Lib.hid hI
      clear hI
      go_simp
      refine hK _ _ ⟨rfl, (Below.refl _ _).alloc (Nat.le_refl _) _, ?_⟩
      show ∃ b, _ = _ ∧ _
      simp only [gv1]
      exact ⟨_, rfl, heap_alloc_new _ _, HI.out.size⟩
    case q2o1 =>
      intro w1 hI
      refine turn2_on (by rfl) ?_
      intro K hK
      go_simp
      refine hK _ _ ⟨rfl, Kept.refl _, ?_⟩
      show _ = _
      simp only [gv1]
      rfl
    case q2o2 =>
      intro w1 hI
      intro v1 h1
      change _ = _ at h1
      subst v1
      refine turn2_on (by rfl) ?_
      intro K hK
      simp only [gv2]
      go_simp
      refine hK _ _ ⟨rfl, Kept.refl _, ?_⟩
      show _ = _
      simp only [gv1]
      rfl
    case q2o3 =>
      intro w1 hI
      intro v2 h2
      change _ = _ at h2
      subst v2
      refine turn2_on (by rfl) ?_
      intro K hK
      simp only [gv2]
      go_simp
      refine hK _ _ ⟨rfl, Kept.refl _, ?_⟩
      show _ = _
      simp only [gv1]
      rfl
    case q2o4 =>
      intro w1 hI
      replace hI : (fun w => Below w9.heap.size w9 w) w1 := hI
      intro v3 h3
      change _ = _ at h3
      subst v3
      refine turn2_on (by rfl) ?_
      intro K hK
      simp only [gv2]
      have hc := (Below.cell hI (block_lt_of_cell HC4.out)).trans HC4.out
      go_simp
      refine hK _ _ ⟨rfl, Kept.refl _, ?_⟩
      show _ = _
      simp only [gv1]
      rfl
    case q2o5 =>
      intro w1 hI
      replace hI : (fun w => Below w9.heap.size w9 w) w1 := hI
      intro v0 h0
      obtain ⟨q0, rfl, hr0, hs0⟩ := h0
      intro v4 h4
      change _ = _ at h4
      subst v4
      refine turn2_on (by rfl) ?_
      intro K hK
      simp only [gv2]
      obtain ⟨v2, w2, hrun, hnew, hgr⟩ := run_rows_all 28 w9 w1 (fun k => Z k ∨ k = C.g) q0 a m c L hr0 HROWS.out hI hs0 (by omega)
      refine wp_rowsapp 51 rfl (.tmp 46) (.tmp 50) rfl w1 _ _ rfl rfl hrun (hK _ _ ⟨rfl, ⟨q0, hgr, hr0, hs0⟩, ?_⟩)
      show RowsNew _ _ _ _ _
      simp only [gv1]
      exact hnew
    case q2o6 =>
      intro w1 hI
      refine turn2_on (by rfl) ?_
      intro K hK
      go_simp
      refine hK _ _ ⟨rfl, Kept.refl _, ?_⟩
      show _ = _
      simp only [gv1]
      rfl
    case q2o7 =>
      intro w1 hI
      replace hI : (fun w => Below w9.heap.size w9 w) w1 := hI
      intro v6 h6
      change _ = _ at h6
      subst v6
      refine turn2_on (by rfl) ?_
      intro K hK
      simp only [gv2]
      have hc := (Below.cell hI (block_lt_of_cell HX1.out)).trans HX1.out
      go_simp
      refine hK _ _ ⟨rfl, Kept.refl _, ?_⟩
      show _ = _
      simp only [gv1]
      rfl
    case q2o8 =>
      intro w1 hI
      intro v7 h7
      change _ = _ at h7
      subst v7
      refine turn2_on (by rfl) ?_
      intro K hK
      simp only [gv2]
      go_simp
      refine hK _ _ ⟨rfl, (Below.refl _ _).alloc (Nat.le_refl _) _, ?_⟩
      show ∃ b, _ = _ ∧ _
      simp only [gv1]
      exact ⟨_, rfl, heap_alloc_new _ _⟩
    case q2o9 =>
      intro w1 hI
      replace hI : (fun w => Below w9.heap.size w9 w) w1 := hI
      intro v5 h5
      intro v8 h8
      obtain ⟨q8, rfl, hr8⟩ := h8
      refine turn2_on (by rfl) ?_
      intro K hK
      simp only [gv2]
      obtain ⟨v2, w2, hrun, hnew, hbw⟩ := run_rows_one 28 w9 w1 (fun k => Z k ∨ k = C.g) v5 q8 ba bn bc B L h5 hr8 HB9.out HNP.out hI (by have := HLM.out; omega)
      refine wp_rowsapp 55 rfl (.tmp 51) (.tmp 54) rfl w1 _ _ rfl rfl hrun (hK _ _ ⟨rfl, hbw, ?_⟩)
      show RowsNew _ _ _ _ _
      simp only [gv1]
      exact hnew
    case q2o10 =>
      intro w1 hI
      intro v9 h9
      refine turn2_on (by rfl) ?_
      intro K hK
      simp only [gv2]
      go_simp
      refine hK _ _ ⟨rfl, Kept.refl _, ?_⟩
      show RowsNew _ _ _ _ _
      simp only [gv1]
      exact h9
  intro w8 hI
  replace hI : (fun w => Below w9.heap.size w9 w) w8 := hI
  intro v0 _
  intro v1 h1
  replace h1 := h1 (by kernel_rfl)
  change _ = _ at h1
  subst v1
  intro v2 h2
  replace h2 := h2 (by kernel_rfl)
  change _ = _ at h2
  subst v2
  intro v3 h3
  replace h3 := h3 (by kernel_rfl)
  change _ = _ at h3
  subst v3
  intro v4 h4
  replace h4 := h4 (by kernel_rfl)
  change _ = _ at h4
  subst v4
  intro v5 _
  intro v6 h6
  replace h6 := h6 (by kernel_rfl)
  change _ = _ at h6
  subst v6
  intro v7 h7
  replace h7 := h7 (by kernel_rfl)
  change _ = _ at h7
  subst v7
  intro v8 _
  intro v9 h9
  replace h9 := h9 (by kernel_rfl)
  intro v10 h10
  replace h10 := h10 (by kernel_rfl)
  simp only [Given, gv2]
  have H10 := h10
  obtain ⟨a8, c8, e8, hr8⟩ := H10.rd HPL.out
  subst e8
  obtain ⟨m1, hlen8⟩ : ∃ m1, (L ++ [B]).length = m1 := ⟨_, rfl⟩
  rw [hlen8] at hr8 ⊢
  have HR8 := Lib.hid hr8
  have P8 := Lib.hid (P9.out.more hI)
  have HX8 := Lib.hid ((Below.cell hI (block_lt_of_cell HX1.out)).trans HX1.out)
  clear hr8 h10 H10 h9 P9 HROWS HB9 HC4 hI
  obtain ⟨y0, y1, y2, y3, y4, y5, y6, y7, y8, yf⟩ := plcells P8.out.row
  go_wp2_with fail
  refine (wcut_any C OK w0 w8 Z (i + 1) st2 J.h L _ P8.out (by omega) rfl rfl hoff a8 m1 c8 J.h.first).mono ?_
  rintro e wz ⟨rfl, hS⟩
  have HS := Lib.hid (hS.later (show i + 1 + 1 ≤ i + 2 by omega))
  clear hS
  go_wp2_with fail
  go_ret
  exact ⟨rfl, L, HS.out⟩
end Go.Proofs.Ytlhpdkapddnbcaa

namespace Go.Proofs.Ytlhpdkapddnbcaa
open Go.RowKit
set_option linter.unusedSimpArgs false in
set_option linter.unusedVariables false in
set_option maxRecDepth 100000 in
set_option maxHeartbeats 4000000 in
theorem step_trno (C : PlC) (OK : C.Ok) (w0 w : World) (Q : Nat → Prop) (i r : Nat) (st : Dk) (J : Jr) (L : List (List Int)) (a : Option Addr) (m c : Nat) (mv : Value) (may : Bool) (ma : Int) (hp : PlR C w0 w Q i r st J L ⟨.pointer (some ⟨r, 0, none⟩), .slice a m c, mv, may, ma, J.h.first, L⟩) (hi : i ≤ 900) (op N : Int) (ba : Option Addr) (bn bc : Nat) (B : List Int) (ka : Option Addr) (kn kc : Nat) (kl : List Bool) (hB : RdAt .u8 w0 ba bn bc B) (hK : RdB w0 ka kn kc kl) (hbn : bn ≤ 1000000) (hkn : kn ≤ 1000000) (hN0 : 0 ≤ N) (hN1 : N ≤ 100) (h1 : op = 2) (hk : (L.length : Int) < N) :
    Calls Try.prog 25 #[.pointer (some ⟨C.g, 0, none⟩), .agg #[.int .i64 op, .slice ba bn bc, .int .i64 N, .slice ka kn kc]] w fun e w' => e = .returned (.bool true) ∧ ∃ L', PlS C w0 w' (i + 2) L' := by
  have HLE : L.length = m := by
    obtain ⟨a', m', c', e1, e2⟩ := hp.rows
    injection e1 with e10 e11 e12
    rw [e11]
    exact e2.len
  rw [HLE] at hk
  obtain ⟨a', m', c', e1, e2⟩ := hp.rows
  injection e1 with e10 e11 e12
  subst e10 e11 e12
  have hm60 : m ≤ 60 := by rw [← e2.len]; exact hp.len60 OK
  have HLM : Hid (L.length = m) := e2.len
  clear e2
  have hba : Below w.heap.size w (w.alloc ((.cells #[.int .i64 op, .slice ba bn bc, .int .i64 N, .slice ka kn kc] 63))) := (Below.refl _ _).alloc (Nat.le_refl _) _
  have hbx : (w.alloc ((.cells #[.int .i64 op, .slice ba bn bc, .int .i64 N, .slice ka kn kc] 63))).heap[w.heap.size]? = some (.cells #[.int .i64 op, .slice ba bn bc, .int .i64 N, .slice ka kn kc] 63 (0, 0)) := heap_alloc_new _ _
  have hxq : ¬ Q w.heap.size := fun h => Nat.lt_irrefl _ (hp.ri.lt _ h)
  have hxg : C.g ≠ w.heap.size := by have := hp.glt; omega
  have hp1 := hp.more hba
  obtain ⟨x, hx⟩ : ∃ x, w.heap.size = x := ⟨_, rfl⟩
  rw [hx] at hbx hxq hxg
  have d1 : (op == 1) = false := by rw [h1]; rfl
  have d2 : (op == 2) = true := by rw [h1]; rfl
  clear h1
  obtain ⟨ew1, ew2⟩ := hp.lenW HLM.out
  have hf1 := hp.H.hv.f1
  have hfn := hp.H.hv.le
  have hnx := hp.num.nx
  have hnl := hp.H.next
  rw [HLM.out] at hnl
  obtain ⟨k, rfl⟩ : ∃ k : Nat, N = k := Int.eq_ofNat_of_zero_le hN0
  obtain ⟨up, hup⟩ : ∃ up, J.h.first + (k : Int) - 1 = up := ⟨_, rfl⟩
  have eN : IntKind.u64.wrap (k : Int) = (k : Int) := by rw [IntKind.wrap_u64]; omega
  have eF : IntKind.u64.wrap (J.h.first + (k : Int)) = J.h.first + k := by rw [IntKind.wrap_u64]; omega
  have eU : IntKind.u64.wrap up = up := by rw [IntKind.wrap_u64]; omega
  have hup0 : 0 ≤ up := by omega
  have hup1 : up ≤ 18446744073709551615 := by omega
  have c1 : J.h.next ≤ up := by omega
  have d5 : decide (J.h.next ≤ up) = true := decide_eq_true c1
  have HC1 := Lib.hid c1
  clear c1
  go_enter Try.func25, Try.ntmps25
  go_upto_region 1 with fail
  obtain ⟨wA, hwA⟩ : ∃ wA, w.alloc ((.cells #[.int .i64 op, .slice ba bn bc, .int .i64 (k : Int), .slice ka kn kc] 63)) = wA := ⟨_, rfl⟩
  rw [hwA] at hbx hp1 ⊢
  have HBX := Lib.hid hbx
  have PA := Lib.hid hp1
  have hxA : x < wA.heap.size := (Array.getElem?_eq_some_iff.1 hbx).1
  clear hba hwA hp hp1
  obtain ⟨b0, b1, b2, b3⟩ := cells4 hbx
  clear hbx
  have BX := Lib.hid HBX.out
  go_upto_region 14 with fail
  refine' reg_free (G := Kept) (pickF [eqV _, eqV _, eqV _, eqV _, eqV _, eqV _, eqV _, eqV _, eqV _, eqV _]) [91, 92, 93, 94, 95, 96, 97, 98, 99, 9] [[], [0], [1], [2], [], [4], [5], [3, 6], [7], [8]] [0, 1, 2, 3, 4, 5, 6, 7, 8, 9] (by kernel_rfl) Kept.refl Kept.trans (pick_stays ⟨eqV_stays _, eqV_stays _, eqV_stays _, eqV_stays _, eqV_stays _, eqV_stays _, eqV_stays _, eqV_stays _, eqV_stays _, eqV_stays _, trivial⟩) 230 rfl (by kernel_rfl) (by kernel_rfl) rfl rfl ?r1obl ?r1fin
  case r1obl =>
    refine And.intro ?r1o0 (And.intro ?r1o1 (And.intro ?r1o2 (And.intro ?r1o3 (And.intro ?r1o4 (And.intro ?r1o5 (And.intro ?r1o6 (And.intro ?r1o7 (And.intro ?r1o8 (And.intro ?r1o9 (True.intro))))))))))
    case r1o0 =>
      intro w1 hG
      refine turn_on (by rfl) ?_
      intro K hK
      go_simp
      refine hK _ _ ⟨rfl, Kept.refl _, ?_⟩
      show _ = _
      simp only [gv1]
      rfl
    case r1o1 =>
      intro w1 hG
      intro v0 h0
      change _ = _ at h0
      subst h0
      refine turn_on (by rfl) ?_
      intro K hK
      simp only [gv2]
      go_simp
      refine hK _ _ ⟨rfl, Kept.refl _, ?_⟩
      show _ = _
      simp only [gv1]
      rfl
    case r1o2 =>
      intro w1 hG
      intro v1 h1
      change _ = _ at h1
      subst h1
      refine turn_on (by rfl) ?_
      intro K hK
      simp only [gv2]
      go_simp
      refine hK _ _ ⟨rfl, Kept.refl _, ?_⟩
      show _ = _
      simp only [gv1]
      rfl
    case r1o3 =>
      intro w1 hG
      intro v2 h2
      change _ = _ at h2
      subst h2
      refine turn_on (by rfl) ?_
      intro K hK
      simp only [gv2]
      have PR := PA.out.drew.more hG
      obtain ⟨y0, y1, y2, y3, y4, y5, y6, y7, y8, yf⟩ := plcells PR.row
      go_simp
      refine hK _ _ ⟨rfl, Kept.refl _, ?_⟩
      show _ = _
      simp only [gv1]
      rfl
    case r1o4 =>
      intro w1 hG
      refine turn_on (by rfl) ?_
      intro K hK
      go_simp
      refine hK _ _ ⟨rfl, Kept.refl _, ?_⟩
      show _ = _
      simp only [gv1]
      rfl
    case r1o5 =>
      intro w1 hG
      intro v4 h4
      change _ = _ at h4
      subst h4
      refine turn_on (by rfl) ?_
      intro K hK
      simp only [gv2]
      obtain ⟨z0, z1, z2, z3⟩ := cells4 (row_keep (w := wA.drew) HBX.out hG)
      go_simp
      refine hK _ _ ⟨rfl, Kept.refl _, ?_⟩
      show _ = _
      simp only [gv1]
      rfl
    case r1o6 =>
      intro w1 hG
      intro v5 h5
      change _ = _ at h5
      subst h5
      refine turn_on (by rfl) ?_
      intro K hK
      simp only [gv2]
      go_simp
      refine hK _ _ ⟨rfl, Kept.refl _, ?_⟩
      show _ = _
      simp only [gv1]
      rfl
    case r1o7 =>
      intro w1 hG
      intro v3 h3
      change _ = _ at h3
      subst h3
      intro v6 h6
      change _ = _ at h6
      subst h6
      refine turn_on (by rfl) ?_
      intro K hK
      simp only [gv2]
      go_simp
      refine hK _ _ ⟨rfl, Kept.refl _, ?_⟩
      show _ = _
      simp only [gv1]
      rfl
    case r1o8 =>
      intro w1 hG
      intro v7 h7
      change _ = _ at h7
      subst h7
      refine turn_on (by rfl) ?_
      intro K hK
      simp only [gv2]
      go_simp
      refine hK _ _ ⟨rfl, Kept.refl _, ?_⟩
      show _ = _
      simp only [gv1]
      rfl
    case r1o9 =>
      intro w1 hG
      intro v8 h8
      change _ = _ at h8
      subst h8
      refine turn_on (by rfl) ?_
      intro K hK
      simp only [gv2]
      go_simp
      refine hK _ _ ⟨rfl, Kept.refl _, ?_⟩
      show _ = _
      simp only [gv1]
      rfl
  intro w1 hG
  intro v0 h0
  change _ = _ at h0
  subst h0
  intro v1 h1
  change _ = _ at h1
  subst h1
  intro v2 h2
  change _ = _ at h2
  subst h2
  intro v3 h3
  change _ = _ at h3
  subst h3
  intro v4 h4
  change _ = _ at h4
  subst h4
  intro v5 h5
  change _ = _ at h5
  subst h5
  intro v6 h6
  change _ = _ at h6
  subst h6
  intro v7 h7
  change _ = _ at h7
  subst h7
  intro v8 h8
  change _ = _ at h8
  subst h8
  intro v9 h9
  change _ = _ at h9
  subst h9
  simp only [Given, gv2]
  have PB := Lib.hid (PA.out.drew.more hG)
  clear hG
  obtain ⟨y0, y1, y2, y3, y4, y5, y6, y7, y8, yf⟩ := plcells PB.out.row
  go_upto_region 15 with fail
  clear eU eF
  go_wp2_with fail
  refine (PB.out.trunc OK (by omega) up hup0 hup1).mono ?_
  rintro e w3 ⟨t1, t2, t3, t4⟩
  obtain ⟨rfl, Q3, hp3⟩ := t1 (by have := HC1.out; omega)
  have P3 := Lib.hid hp3
  clear t1 t2 t3 t4 hp3 PA PB HBX y0 y1 y2 y3 y4 y5 y6 y7 y8 yf
  go_upto_region 16 with fail
  refine' reg_free (G := Kept) (pickF [eqV _, eqV _, eqV _, eqV _, eqV _, eqV _, eqV _, eqV _, eqV _, eqV _, eqV _, eqV _, eqV _]) [106, 107, 108, 109, 110, 111, 112, 113, 114, 115, 116, 117, 118] [[], [], [1], [2], [3], [], [5], [6], [7], [8], [9], [4, 10], [0, 11]] [0, 1, 2, 3, 4, 5, 6, 7, 8, 9, 10, 11, 12] (by kernel_rfl) Kept.refl Kept.trans (pick_stays ⟨eqV_stays _, eqV_stays _, eqV_stays _, eqV_stays _, eqV_stays _, eqV_stays _, eqV_stays _, eqV_stays _, eqV_stays _, eqV_stays _, eqV_stays _, eqV_stays _, eqV_stays _, trivial⟩) 230 rfl (by kernel_rfl) (by kernel_rfl) rfl rfl ?r2obl ?r2fin
  case r2obl =>
    refine And.intro ?r2o0 (And.intro ?r2o1 (And.intro ?r2o2 (And.intro ?r2o3 (And.intro ?r2o4 (And.intro ?r2o5 (And.intro ?r2o6 (And.intro ?r2o7 (And.intro ?r2o8 (And.intro ?r2o9 (And.intro ?r2o10 (And.intro ?r2o11 (And.intro ?r2o12 (True.intro)))))))))))))
    case r2o0 =>
      intro w1 hG
      refine turn_on (by rfl) ?_
      intro K hK
      go_simp
      refine hK _ _ ⟨rfl, Kept.refl _, ?_⟩
      show _ = _
      simp only [gv1]
      rfl
    case r2o1 =>
      intro w1 hG
      refine turn_on (by rfl) ?_
      intro K hK
      go_simp
      refine hK _ _ ⟨rfl, Kept.refl _, ?_⟩
      show _ = _
      simp only [gv1]
      rfl
    case r2o2 =>
      intro w1 hG
      intro v1 h1
      change _ = _ at h1
      subst h1
      refine turn_on (by rfl) ?_
      intro K hK
      simp only [gv2]
      go_simp
      refine hK _ _ ⟨rfl, Kept.refl _, ?_⟩
      show _ = _
      simp only [gv1]
      rfl
    case r2o3 =>
      intro w1 hG
      intro v2 h2
      change _ = _ at h2
      subst h2
      refine turn_on (by rfl) ?_
      intro K hK
      simp only [gv2]
      go_simp
      refine hK _ _ ⟨rfl, Kept.refl _, ?_⟩
      show _ = _
      simp only [gv1]
      rfl
    case r2o4 =>
      intro w1 hG
      intro v3 h3
      change _ = _ at h3
      subst h3
      refine turn_on (by rfl) ?_
      intro K hK
      simp only [gv2]
      have PR := P3.out.drew.more hG
      obtain ⟨y0, y1, y2, y3, y4, y5, y6, y7, y8, yf⟩ := plcells PR.row
      go_simp
      refine hK _ _ ⟨rfl, Kept.refl _, ?_⟩
      show _ = _
      simp only [gv1]
      rfl
    case r2o5 =>
      intro w1 hG
      refine turn_on (by rfl) ?_
      intro K hK
      go_simp
      refine hK _ _ ⟨rfl, Kept.refl _, ?_⟩
      show _ = _
      simp only [gv1]
      rfl
    case r2o6 =>
      intro w1 hG
      intro v5 h5
      change _ = _ at h5
      subst h5
      refine turn_on (by rfl) ?_
      intro K hK
      simp only [gv2]
      go_simp
      refine hK _ _ ⟨rfl, Kept.refl _, ?_⟩
      show _ = _
      simp only [gv1]
      rfl
    case r2o7 =>
      intro w1 hG
      intro v6 h6
      change _ = _ at h6
      subst h6
      refine turn_on (by rfl) ?_
      intro K hK
      simp only [gv2]
      go_simp
      refine hK _ _ ⟨rfl, Kept.refl _, ?_⟩
      show _ = _
      simp only [gv1]
      rfl
    case r2o8 =>
      intro w1 hG
      intro v7 h7
      change _ = _ at h7
      subst h7
      refine turn_on (by rfl) ?_
      intro K hK
      simp only [gv2]
      have PR := P3.out.drew.more hG
      obtain ⟨y0, y1, y2, y3, y4, y5, y6, y7, y8, yf⟩ := plcells PR.row
      go_simp
      refine hK _ _ ⟨rfl, Kept.refl _, ?_⟩
      show _ = _
      simp only [gv1]
      rfl
    case r2o9 =>
      intro w1 hG
      intro v8 h8
      change _ = _ at h8
      subst h8
      refine turn_on (by rfl) ?_
      intro K hK
      simp only [gv2]
      go_simp
      refine hK _ _ ⟨rfl, Kept.refl _, ?_⟩
      show _ = _
      simp only [gv1]
      rfl
    case r2o10 =>
      intro w1 hG
      intro v9 h9
      change _ = _ at h9
      subst h9
      refine turn_on (by rfl) ?_
      intro K hK
      simp only [gv2]
      go_simp
      refine hK _ _ ⟨rfl, Kept.refl _, ?_⟩
      show _ = _
      simp only [gv1]
      rfl
    case r2o11 =>
      intro w1 hG
      intro v4 h4
      change _ = _ at h4
      subst h4
      intro v10 h10
      change _ = _ at h10
      subst h10
      refine turn_on (by rfl) ?_
      intro K hK
      simp only [gv2]
      go_simp
      refine hK _ _ ⟨rfl, Kept.refl _, ?_⟩
      show _ = _
      simp only [gv1]
      rfl
    case r2o12 =>
      intro w1 hG
      intro v0 h0
      change _ = _ at h0
      subst h0
      intro v11 h11
      change _ = _ at h11
      subst h11
      refine turn_on (by rfl) ?_
      intro K hK
      simp only [gv2]
      go_simp
      refine hK _ _ ⟨rfl, Kept.refl _, ?_⟩
      show _ = _
      simp only [gv1]
      rfl
  intro w1 hG
  intro v0 h0
  change _ = _ at h0
  subst h0
  intro v1 h1
  change _ = _ at h1
  subst h1
  intro v2 h2
  change _ = _ at h2
  subst h2
  intro v3 h3
  change _ = _ at h3
  subst h3
  intro v4 h4
  change _ = _ at h4
  subst h4
  intro v5 h5
  change _ = _ at h5
  subst h5
  intro v6 h6
  change _ = _ at h6
  subst h6
  intro v7 h7
  change _ = _ at h7
  subst h7
  intro v8 h8
  change _ = _ at h8
  subst h8
  intro v9 h9
  change _ = _ at h9
  subst h9
  intro v10 h10
  change _ = _ at h10
  subst h10
  intro v11 h11
  change _ = _ at h11
  subst h11
  intro v12 h12
  change _ = _ at h12
  subst h12
  simp only [Given, gv2]
  have P4 := Lib.hid (P3.out.drew.more hG)
  clear P3 hG
  obtain ⟨y0, y1, y2, y3, y4, y5, y6, y7, y8, yf⟩ := plcells P4.out.row
  go_wp2_with fail
  go_ret
  exact ⟨rfl, L, _, _, _, _, _, P4.out.later (show i + 1 ≤ i + 2 by omega), rfl, rfl, rfl⟩
end Go.Proofs.Ytlhpdkapddnbcaa
