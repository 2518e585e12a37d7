/- ring: a step: a cut, and opened again. ring: a step, whatever it is. Opening slices of numbers, bools; how much lies in data. Opening a slice of bools within a struct. Opening a slice of almanaclaw8.Act. ring: few. ring: the chapter's example, plainly: what is appended is there behind a cut. ring: known, plainly: what its disk holds. []byte("..") of a constant: its row gets a mark behind its last cell; append to a slice that is full. No program in sight. ring: known: walked. ring: a play begun; an act copied. -/
import Derived.Test.YtlhpdkapddnbcaaJk0
import Derived.Deep.CutBlock
import Derived.Deep.DeepCutAuto
import Derived.Test.YtlhpdkapddnbcaaJk18
import Derived.Test.YtlhpdkapddnbcaaJk19
import Derived.Test.YtlhpdkapddnbcaaJk20
import Derived.Test.YtlhpdkapddnbcaaJk21
import Derived.Test.YtlhpdkapddnbcaaJk22
import Derived.Test.YtlhpdkapddnbcaaJk23
import Derived.Test.YtlhpdkapddnbcaaJk24
import Derived.WalkKit
import Derived.ProofKit
import Derived.OpenShut
import Derived.Deep.Slices
import Derived.Deep.Grids
import Derived.Test.YtlhpdkapddnbcaaJk1
import Derived.Test.YtlhpdkapddnbcaaRows
import Derived.Test.YtlhpdkapddnbcaaJk2
import Derived.Test.YtlhpdkapddnbcaaJk16
import Derived.BigQuiet
import Derived.Deep.QuietTactic
import Derived.Test.YtlhpdkapddnbcaaJk3
import Derived.Test.YtlhpdkapddnbcaaJk5
import Derived.Lib.SlBytesConst
namespace Go.Proofs.Ytlhpdkapddnbcaa
open Go.RowKit
set_option linter.unusedSimpArgs false in
set_option linter.unusedVariables false in
set_option maxRecDepth 100000 in
set_option maxHeartbeats 4000000 in
theorem step_cut (C : PlC) (OK : C.Ok) (w0 w : World) (Q : Nat → Prop) (i r : Nat) (st : Dk) (J : Jr) (L : List (List Int)) (a : Option Addr) (m c : Nat) (mv : Value) (may : Bool) (ma : Int) (hp : PlR C w0 w Q i r st J L ⟨.pointer (some ⟨r, 0, none⟩), .slice a m c, mv, may, ma, J.h.first, L⟩) (hi : i ≤ 900) (op N : Int) (ba : Option Addr) (bn bc : Nat) (B : List Int) (ka : Option Addr) (kn kc : Nat) (kl : List Bool) (hB : RdAt .u8 w0 ba bn bc B) (hK : RdB w0 ka kn kc kl) (hbn : bn ≤ 1000000) (hkn : kn ≤ 1000000) (hN0 : 0 ≤ N) (hN1 : N ≤ 100) (h1 : op = 4) :
    Calls Try.prog 25 #[.pointer (some ⟨C.g, 0, none⟩), .agg #[.int .i64 op, .slice ba bn bc, .int .i64 N, .slice ka kn kc]] w fun e w' => e = .returned (.bool true) ∧ ∃ L', PlS C w0 w' (i + 2) L' := by
  have hKr := hK
  clear hK
  obtain ⟨a', m', c', e1, e2⟩ := hp.rows
  injection e1 with e10 e11 e12
  subst e10 e11 e12
  have hm60 : m ≤ 60 := by rw [← e2.len]; exact hp.len60 OK
  have HLM : Hid (L.length = m) := e2.len
  clear e2
  have hba : Below w.heap.size w (w.alloc ((.cells #[.int .i64 op, .slice ba bn bc, .int .i64 N, .slice ka kn kc] 63))) := (Below.refl _ _).alloc (Nat.le_refl _) _
  have hbx : (w.alloc ((.cells #[.int .i64 op, .slice ba bn bc, .int .i64 N, .slice ka kn kc] 63))).heap[w.heap.size]? = some (.cells #[.int .i64 op, .slice ba bn bc, .int .i64 N, .slice ka kn kc] 63 (0, 0)) := heap_alloc_new _ _
  have hxq : ¬ Q w.heap.size := fun h => Nat.lt_irrefl _ (hp.ri.lt _ h)
  have hxg : C.g ≠ w.heap.size := by have := hp.glt; omega
  have hp1 := hp.more hba
  obtain ⟨x, hx⟩ : ∃ x, w.heap.size = x := ⟨_, rfl⟩
  rw [hx] at hbx hxq hxg
  have d1 : (op == 1) = false := by rw [h1]; rfl
  have d2 : (op == 2) = false := by rw [h1]; rfl
  have d3 : (op == 3) = false := by rw [h1]; rfl
  have d4 : (op == 4) = true := by rw [h1]; rfl
  clear h1
  go_enter Try.func25, Try.ntmps25
  go_upto_region 1 with fail
  obtain ⟨wA, hwA⟩ : ∃ wA, w.alloc ((.cells #[.int .i64 op, .slice ba bn bc, .int .i64 N, .slice ka kn kc] 63)) = wA := ⟨_, rfl⟩
  rw [hwA] at hbx hp1 ⊢
  have HBX := Lib.hid hbx
  have PA := Lib.hid hp1
  have hxA : x < wA.heap.size := (Array.getElem?_eq_some_iff.1 hbx).1
  clear hba hwA hp hp1
  obtain ⟨b0, b1, b2, b3⟩ := cells4 hbx
  clear hbx
  go_upto_region 30 with fail
  refine' reg_order [eqV _, eqV _, eqV _, eqV _, eqV _, eqV _, fun _ w => ∃ Z st', PlD C w0 w Z i st' J.h L ⟨.pointer (some ⟨r, 0, none⟩), .slice a m c, mv, may, ma, J.h.first, L⟩] [(6, fun w w' => True)] [(3, fun w => PlR C w0 w Q i r st J L ⟨.pointer (some ⟨r, 0, none⟩), .slice a m c, mv, may, ma, J.h.first, L⟩), (5, fun w => w.heap[x]? = some (.cells #[.int .i64 op, .slice ba bn bc, .int .i64 N, .slice ka kn kc] 63 (0, 0))), (6, fun w => PlR C w0 w Q i r st J L ⟨.pointer (some ⟨r, 0, none⟩), .slice a m c, mv, may, ma, J.h.first, L⟩)] [192, 193, 194, 195, 196, 197, 198] [[], [0], [1], [2], [], [4], [3, 5]] [0, 1, 2, 3, 4, 5, 6] 7 (by kernel_rfl) ⟨eqV_stays _, eqV_stays _, eqV_stays _, eqV_stays _, eqV_stays _, eqV_stays _, fun _ _ _ p b => p.elim fun Z q => q.elim fun st' q => ⟨Z, st', q.more b⟩, trivial⟩ ⟨⟨.inl (eqV_stays _), .inl (eqV_stays _), .inl (eqV_stays _), .inl (eqV_stays _), .inl (eqV_stays _), .inl (eqV_stays _), .inr (.inr rfl), trivial⟩, trivial⟩ ⟨fun _ _ p b => p.more b, fun _ _ p b => row_keep p b, fun _ _ p b => p.more b, trivial⟩ ⟨⟨.inr (.inl (by kernel_rfl)), .inr (.inl (by kernel_rfl)), .inr (.inr rfl), trivial⟩, trivial⟩ ⟨PA.out.drew, HBX.out, PA.out.drew, trivial⟩ 230 rfl (by kernel_rfl) (by kernel_rfl) rfl rfl 7 rfl ?q1obl ?q1fin
  case q1obl =>
    refine And.intro ?q1o0 (And.intro ?q1o1 (And.intro ?q1o2 (And.intro ?q1o3 (And.intro ?q1o4 (And.intro ?q1o5 (And.intro ?q1o6 (True.intro)))))))
    case q1o0 =>
      intro w1 hI
      refine turn2_on (by rfl) ?_
      intro K hK
      go_simp
      refine hK _ _ ⟨rfl, Kept.refl _, ?_⟩
      show _ = _
      simp only [gv1]
      rfl
    case q1o1 =>
      intro w1 hI
      intro v0 h0
      change _ = _ at h0
      subst v0
      refine turn2_on (by rfl) ?_
      intro K hK
      simp only [gv2]
      go_simp
      refine hK _ _ ⟨rfl, Kept.refl _, ?_⟩
      show _ = _
      simp only [gv1]
      rfl
    case q1o2 =>
      intro w1 hI
      intro v1 h1
      change _ = _ at h1
      subst v1
      refine turn2_on (by rfl) ?_
      intro K hK
      simp only [gv2]
      go_simp
      refine hK _ _ ⟨rfl, Kept.refl _, ?_⟩
      show _ = _
      simp only [gv1]
      rfl
    case q1o3 =>
      intro w1 hI
      replace hI : (fun w => PlR C w0 w Q i r st J L ⟨.pointer (some ⟨r, 0, none⟩), .slice a m c, mv, may, ma, J.h.first, L⟩) w1 := hI
      intro v2 h2
      change _ = _ at h2
      subst v2
      refine turn2_on (by rfl) ?_
      intro K hK
      simp only [gv2]
      obtain ⟨y0, y1, y2, y3, y4, y5, y6, y7, y8, yf⟩ := plcells hI.row
      go_simp
      refine hK _ _ ⟨rfl, Kept.refl _, ?_⟩
      show _ = _
      simp only [gv1]
      rfl
    case q1o4 =>
      intro w1 hI
      refine turn2_on (by rfl) ?_
      intro K hK
      go_simp
      refine hK _ _ ⟨rfl, Kept.refl _, ?_⟩
      show _ = _
      simp only [gv1]
      rfl
    case q1o5 =>
      intro w1 hI
      replace hI : (fun w => w.heap[x]? = some (.cells #[.int .i64 op, .slice ba bn bc, .int .i64 N, .slice ka kn kc] 63 (0, 0))) w1 := hI
      intro v4 h4
      change _ = _ at h4
      subst v4
      refine turn2_on (by rfl) ?_
      intro K hK
      simp only [gv2]
      obtain ⟨z0, z1, z2, z3⟩ := cells4 hI
      go_simp
      refine hK _ _ ⟨rfl, Kept.refl _, ?_⟩
      show _ = _
      simp only [gv1]
      rfl
    case q1o6 =>
      intro w1 hI
      replace hI : (fun w => PlR C w0 w Q i r st J L ⟨.pointer (some ⟨r, 0, none⟩), .slice a m c, mv, may, ma, J.h.first, L⟩) w1 := hI
      intro v3 h3
      change _ = _ at h3
      subst v3
      intro v5 h5
      change _ = _ at h5
      subst v5
      refine turn2_on (by rfl) ?_
      intro K hK
      simp only [gv2]
      go_simp
      obtain ⟨Z, hpd, hzq⟩ := hI.disk
      refine Calls.mono (hpd.cut ka kn kc kl (hKr.keep hI.below) (fun y hy h0 => ⟨(hKr.keep hI.below).lt y hy h0, fun hz => by have h1 := hKr.lt y hy h0; have h2 := hpd.base _ hz; omega⟩)) ?_
      rintro e w2 ⟨rfl, hpr⟩
      refine hK _ _ ⟨rfl, trivial, ?_⟩
      exact ⟨Z, _, hpr⟩
  intro w9 hI
  intro v0 h0
  change _ = _ at h0
  subst v0
  intro v1 h1
  change _ = _ at h1
  subst v1
  intro v2 h2
  change _ = _ at h2
  subst v2
  intro v3 h3
  change _ = _ at h3
  subst v3
  intro v4 h4
  change _ = _ at h4
  subst v4
  intro v5 h5
  change _ = _ at h5
  subst v5
  intro v6 h6
  obtain ⟨Z2, st2, g9⟩ := h6
  simp only [Given, gv2]
  have P9 := Lib.hid g9
  clear g9 PA HBX
  go_wp2_with fail
  refine (wopen_any C OK w0 w9 Z2 i st2 J.h L _ P9.out (by omega) rfl rfl).mono ?_
  rintro e wz ⟨rfl, hS⟩
  have HS := Lib.hid (hS.later (show i + 1 ≤ i + 2 by omega))
  clear hS
  go_wp2_with fail
  go_ret
  exact ⟨rfl, L, HS.out⟩
end Go.Proofs.Ytlhpdkapddnbcaa

namespace Go.Proofs.Ytlhpdkapddnbcaa
open Go.RowKit
set_option maxRecDepth 100000 in
theorem wstep_any (C : PlC) (OK : C.Ok) (w0 w : World) (i : Nat) (L : List (List Int)) (hS : PlS C w0 w i L) (hi : i ≤ 900) (op N : Int) (ba : Option Addr) (bn bc : Nat) (B : List Int) (ka : Option Addr) (kn kc : Nat) (kl : List Bool) (hB : RdAt .u8 w0 ba bn bc B) (hK : RdB w0 ka kn kc kl) (hbn : bn ≤ 1000000) (hkn : kn ≤ 1000000) (hN0 : 0 ≤ N) (hN1 : N ≤ 100) :
    Calls Try.prog 25 #[.pointer (some ⟨C.g, 0, none⟩), .agg #[.int .i64 op, .slice ba bn bc, .int .i64 N, .slice ka kn kc]] w fun e w' => e = .returned (.bool true) ∧ ∃ L', PlS C w0 w' (i + 2) L' := by
  obtain ⟨Q, r, st, J, V, hp, hrv, hf, hM⟩ := hS
  obtain ⟨rv, lv, mv, may, ma, f, M⟩ := V
  obtain rfl : rv = .pointer (some ⟨r, 0, none⟩) := hrv
  obtain rfl : f = J.h.first := hf
  obtain rfl : M = L := hM
  obtain ⟨a, m, c, e1, _⟩ := hp.rows
  obtain rfl : lv = .slice a m c := e1
  by_cases h1 : op = 1
  · by_cases hf : roomN J < bn
    · exact step_full C OK w0 w Q i r st J M a m c mv may ma hp hi op N ba bn bc B ka kn kc kl hB hK hbn hkn hN0 hN1 h1 hf
    · by_cases hw : st.armed = 0 ∨ ((ndN J.size B.length : Nat) : Int) + 1 < st.armed
      · exact step_app C OK w0 w Q i r st J M a m c mv may ma hp hi op N ba bn bc B ka kn kc kl hB hK hbn hkn hN0 hN1 h1 hf hw
      · exact step_appcut C OK w0 w Q i r st J M a m c mv may ma hp hi op N ba bn bc B ka kn kc kl hB hK hbn hkn hN0 hN1 h1 hf hw
  by_cases h2 : op = 2
  · by_cases k1 : (M.length : Int) < N
    · exact step_trno C OK w0 w Q i r st J M a m c mv may ma hp hi op N ba bn bc B ka kn kc kl hB hK hbn hkn hN0 hN1 h2 k1
    by_cases k2 : N = 0
    · exact step_tr0 C OK w0 w Q i r st J M a m c mv may ma hp hi op N ba bn bc B ka kn kc kl hB hK hbn hkn hN0 hN1 h2 k2
    by_cases k3 : st.armed = 1
    · exact step_trcut C OK w0 w Q i r st J M a m c mv may ma hp hi op N ba bn bc B ka kn kc kl hB hK hbn hkn hN0 hN1 h2 (by omega) (by omega) k3
    · exact step_tr C OK w0 w Q i r st J M a m c mv may ma hp hi op N ba bn bc B ka kn kc kl hB hK hbn hkn hN0 hN1 h2 (by omega) (by omega) k3
  by_cases h3 : op = 3
  · exact step_arm C OK w0 w Q i r st J M a m c mv may ma hp hi op N ba bn bc B ka kn kc kl hB hK hbn hkn hN0 hN1 h3
  by_cases h4 : op = 4
  · exact step_cut C OK w0 w Q i r st J M a m c mv may ma hp hi op N ba bn bc B ka kn kc kl hB hK hbn hkn hN0 hN1 h4
  · exact step_none C OK w0 w Q i r st J M a m c mv may ma hp hi op N ba bn bc B ka kn kc kl hB hK hbn hkn hN0 hN1 h1 h2 h3 h4
end Go.Proofs.Ytlhpdkapddnbcaa

namespace Go.Proofs.Ytlhpdkapddnbcaa
open Go.ChangeShapes Go.WideShapes Go.ChangeAt Go.RowKit
theorem bulk_one {H : Type} (d : DataW H) : 1 ≤ Rows.uptoBulk d := by
  cases d with
  | lit l => cases l <;> simp [Rows.uptoBulk]
  | nil => simp [Rows.uptoBulk]
  | ptr d => simp [Rows.uptoBulk]
  | slice elems spare => simp [Rows.uptoBulk]
  | agg parts => simp [Rows.uptoBulk]
  | iface t d => simp [Rows.uptoBulk]
  | map entries => simp [Rows.uptoBulk]
  | held h => simp [Rows.uptoBulk]
theorem bulk_length {H : Type} (l : List (DataW H)) : l.length ≤ Rows.uptoBulkAll l := by
  induction l with
  | nil => simp [Rows.uptoBulkAll]
  | cons x r ih => have := bulk_one x; simp only [Rows.uptoBulkAll, List.length_cons]; omega
theorem bulk_slice {H : Type} (elems spare : List (DataW H)) : Rows.uptoBulkAll elems + 1 ≤ Rows.uptoBulk (.slice elems spare) := by
  simp only [Rows.uptoBulk]; omega
theorem bulk_part {H : Type} {d : DataW H} {l : List (DataW H)} (h : d ∈ l) : Rows.uptoBulk d ≤ Rows.uptoBulkAll l := by
  induction l with
  | nil => cases h
  | cons x r ih =>
    simp only [Rows.uptoBulkAll]
    cases List.mem_cons.1 h with
    | inl e => subst e; omega
    | inr e => have := ih e; omega
theorem bulk_bound {H : Type} {l : List (DataW H)} (hk : Rows.uptoSmall H l = true) : Rows.uptoBulkAll l ≤ 1048576 := of_decide_eq_true hk
theorem bulk_two {H : Type} : ∀ {l : List (DataW H)} {i j : Nat} {x y : DataW H}, i < j → l[i]? = some x → l[j]? = some y → Rows.uptoBulk x + Rows.uptoBulk y ≤ Rows.uptoBulkAll l
  | [], _, _, _, _, _, h, _ => by simp at h
  | d :: l, 0, 0, _, _, h, _, _ => by omega
  | d :: l, 0, j + 1, x, y, _, h1, h2 => by
    simp at h1 h2
    subst h1
    have := bulk_part (List.mem_of_getElem? h2)
    simp only [Rows.uptoBulkAll]
    omega
  | d :: l, i + 1, 0, _, _, h, _, _ => by omega
  | d :: l, i + 1, j + 1, x, y, h, h1, h2 => by
    simp at h1 h2
    have := bulk_two (show i < j by omega) h1 h2
    simp only [Rows.uptoBulkAll]
    omega
section
variable {H : Type} {enc : TypeId × Value → H} {P : Program} {w : World} {base : Nat} {held : Bool} {k : Nat} {x : DataW H × List MemPlace}
theorem nums_of {kd : IntKind} {t e : TypeId} {v : Value} (ht : P.underlying t = some (.slice e)) (he : P.underlying e = some (.int kd)) (hc : P.cellsOf e = 1) (h : DataW.trod enc P w base (fun _ => true) held k t [v] = some x) : ∃ a n c z, v = .slice a n c ∧ RdAt kd w a n c z ∧ z.length + 1 ≤ Rows.uptoBulk x.1 := by
  rcases open_ints ht he hc h with ⟨hcs, _⟩ | ⟨y, l, c, zs, hcs, _, hl, hm, hz, hx, hcell, hwz⟩
  · simp at hcs
    exact ⟨none, 0, 0, [], hcs, RdAt.nil _ _, by have := bulk_one x.1; simpa using this⟩
  · simp at hcs
    refine ⟨_, _, _, _, hcs, RdAt.of_row hl hm (by simpa using hz) hcell hwz, ?_⟩
    rw [hx]
    have h1 := bulk_slice (H := H) ((zs.take l).map fun n => .lit (.int kd n)) ((zs.drop l).map fun n => .lit (.int kd n))
    have h2 := bulk_length (H := H) ((zs.take l).map fun n => .lit (.int kd n))
    rw [List.length_map] at h2
    exact Nat.le_trans (Nat.succ_le_succ h2) h1
end
end Go.Proofs.Ytlhpdkapddnbcaa

namespace Go.Proofs.Ytlhpdkapddnbcaa
open Go.ChangeShapes Go.WideShapes Go.ChangeAt Go.RowKit
section
variable {H : Type} {enc : TypeId × Value → H} {P : Program} {w : World} {base : Nat} {held : Bool} {k : Nat} {x : DataW H × List MemPlace}
theorem bools_of {t e : TypeId} {v : Value} (ht : P.underlying t = some (.slice e)) (he : P.underlying e = some .bool) (hc : P.cellsOf e = 1) (h : DataW.trod enc P w base (fun _ => true) held k t [v] = some x) : ∃ a n c z, v = .slice a n c ∧ RdB w a n c z ∧ z.length + 1 ≤ Rows.uptoBulk x.1 := by
  rcases Go.Deep.open_bools ht he hc h with ⟨hcs, _⟩ | ⟨y, l, c, B, hcs, _, hl, hm, hx, hcell⟩
  · simp at hcs
    exact ⟨none, 0, 0, [], hcs, ⟨rfl, Nat.le_refl _, by unfold maxLen; omega, fun i hi => by omega, fun _ => rfl⟩, by have := bulk_one x.1; simpa using this⟩
  · simp at hcs
    subst hcs
    obtain ⟨d, q⟩ := x
    obtain ⟨z, hz⟩ := bools_open (d := d) (p := q) ht he hc ⟨k, by simpa [Value.cells] using h⟩
    refine ⟨_, _, _, z, rfl, hz, ?_⟩
    rw [Prod.mk.injEq] at hx
    rw [show d = _ from hx.1, hz.len]
    have h1 := bulk_slice (H := H) ((List.range l).map fun i => .lit (.bool (B i))) ((List.range (c - l)).map fun j => .lit (.bool (B (l + j))))
    have h2 := bulk_length (H := H) ((List.range l).map fun i => .lit (.bool (B i)))
    rw [List.length_map, List.length_range] at h2
    exact Nat.le_trans (Nat.succ_le_succ h2) h1
end
end Go.Proofs.Ytlhpdkapddnbcaa

namespace Go.Proofs.Ytlhpdkapddnbcaa
open Go.ChangeShapes Go.WideShapes Go.ChangeAt Go.RowKit
structure RaP where
  op : Int
  bs : List Int
  nn : Int
  keep : List Bool
instance : Inhabited RaP := ⟨⟨0, [], 0, []⟩⟩
structure RaAt (w : World) (b off : Nat) (A : RaP) : Prop where
  ex : ∃ a1 n1 c1 a3 n3 c3, w.cell? ⟨b, off, none⟩ = some (.int .i64 A.op) ∧ w.cell? ⟨b, off + 1, none⟩ = some (.slice a1 n1 c1) ∧ w.cell? ⟨b, off + 2, none⟩ = some (.int .i64 A.nn) ∧ w.cell? ⟨b, off + 3, none⟩ = some (.slice a3 n3 c3) ∧ RdAt .u8 w a1 n1 c1 A.bs ∧ RdB w a3 n3 c3 A.keep
  wf : (Lit.int .i64 A.op).wf = true ∧ (Lit.int .i64 A.nn).wf = true
structure RasAt (w : World) (a : Option Addr) (n : Nat) (L : List RaP) : Prop where
  len : L.length = n
  at_ : ∀ i A, L[i]? = some A → ∃ b o, a = some ⟨b, o, none⟩ ∧ RaAt w b (o + i * 4) A
def sumRa : List RaP → Nat
  | [] => 0
  | A :: r => A.bs.length + A.keep.length + sumRa r
theorem bulk_ra {H : Type} (R : List Nat) (f : Nat → RaP) (g : Nat → DataW H) (h : ∀ r ∈ R, (f r).bs.length + (f r).keep.length + 1 ≤ Rows.uptoBulk (g r)) : sumRa (R.map f) + R.length ≤ Rows.uptoBulkAll (R.map g) := by
  induction R with
  | nil => simp [Rows.uptoBulkAll, sumRa]
  | cons x R ih =>
    have h1 := h x (by simp)
    have h2 := ih (fun r hr => h r (by simp [hr]))
    rw [List.map_cons, List.map_cons, List.length_cons]
    simp only [Rows.uptoBulkAll, sumRa]
    omega
theorem list_ra {α : Type} {l : List α} (h : l.length = 4) : ∃ c0 c1 c2 c3, l = [c0, c1, c2, c3] := by
  match l, h with
  | [c0, c1, c2, c3], _ => exact ⟨_, _, _, _, rfl⟩
def ra_F (fs : Array Field) : Bool := fs.size == 4 && (List.range 4).all fun i => match fs[i]? with | some f => f.offset == i && f.type == [3, 36, 3, 38].getD i 0 | none => false
set_option maxRecDepth 100000 in
theorem open_ra {H : Type} {enc : TypeId × Value → H} {w : World} {base : Nat} {held : Bool} {a : Option Addr} {n c : Nat} {d : DataW H} {p : List MemPlace} {fs : Array Field} (hs : Try.prog.underlying 63 = some (.struct fs)) (hF : ra_F fs = true) (hC : Try.prog.cellsOf 63 = 4)
    (h : DataW.Trod enc Try.prog w base (fun _ => true) held 60 (.slice a n c) d p) : ∃ L, RasAt w a n L ∧ sumRa L + n ≤ Rows.uptoBulk d := by
  obtain ⟨fuel, hf⟩ := h
  have hT : Try.prog.underlying 60 = some (.slice 63) := Try.underlying60
  rcases Go.Deep.open_slice hT hf with ⟨hcs, hxd⟩ | ⟨x, l, c', m, k, D, Pl, hcs, _, hl, hm, hmm, hxd, hall⟩
  · simp [Value.cells] at hcs
    obtain ⟨rfl, rfl, rfl⟩ := hcs
    exact ⟨[], ⟨rfl, fun i A hA => by simp at hA⟩, by simp [sumRa]⟩
  · simp [Value.cells] at hcs
    obtain ⟨rfl, rfl, rfl⟩ := hcs
    simp only [if_true] at hmm
    subst hmm
    have each : ∀ i, i < n → ∃ A : RaP, (∃ b o, some x = some (⟨b, o, none⟩ : Addr) ∧ RaAt w b (o + i * 4) A) ∧ A.bs.length + A.keep.length + 1 ≤ Rows.uptoBulk (D i) := by
      intro i hi
      obtain ⟨cs, h1, h2⟩ := hall i (by omega)
      rw [hC] at h1
      obtain ⟨_, hlen, hcell⟩ := World.cells?_some h1
      obtain ⟨v0, v1, v2, v3, rfl⟩ := list_ra hlen
      obtain ⟨xs, kk, _, hDi, _, hxl, hg⟩ := DataW.trod_struct hs h2
      unfold ra_F at hF
      rw [Bool.and_eq_true] at hF
      have h7 : fs.size = 4 := by simpa using hF.1
      have hff := List.all_eq_true.1 hF.2
      have key : ∀ (j : Nat) (v : Value) (T : TypeId), j < 4 → ([v0, v1, v2, v3] : List Value)[j]? = some v → [3, 36, 3, 38].getD j 0 = T → Try.prog.cellsOf T = 1 → ∃ y, DataW.trod enc Try.prog w base (fun _ => true) held kk T [v] = some y ∧ xs[j]? = some y := by
        intro j v T hj hv hTj hT1
        have hx := hff j (by simpa using hj)
        obtain ⟨f, hfi⟩ : ∃ f, fs[j]? = some f := ⟨_, Array.getElem?_eq_getElem (by omega)⟩
        rw [hfi] at hx
        simp only [Bool.and_eq_true, beq_iff_eq] at hx
        obtain ⟨ho, ht⟩ := hx
        have h3 := hg j f hfi
        rw [ho, ht, hTj, hT1] at h3
        have hd : (([v0, v1, v2, v3] : List Value).drop j).take 1 = [v] := by
          obtain ⟨hjl, hje⟩ := List.getElem?_eq_some_iff.1 hv
          rw [List.drop_eq_getElem_cons hjl, hje]
          rfl
        rw [hd] at h3
        exact ⟨_, h3.trans (List.getElem?_eq_getElem (by omega)), List.getElem?_eq_getElem (by omega)⟩
      obtain ⟨y0, t0, s0⟩ := key 0 v0 3 (by omega) rfl rfl (by kernel_rfl)
      obtain ⟨y1, t1, s1⟩ := key 1 v1 36 (by omega) rfl rfl (by kernel_rfl)
      obtain ⟨y2, t2, s2⟩ := key 2 v2 3 (by omega) rfl rfl (by kernel_rfl)
      obtain ⟨y3, t3, s3⟩ := key 3 v3 38 (by omega) rfl rfl (by kernel_rfl)
      obtain ⟨z0, e0, _, q0⟩ := DataW.trod_int Try.underlying3 t0
      obtain ⟨a1, n1, c1, z1, rfl, rk1, uk1⟩ := nums_of Try.underlying36 Try.underlying5 (by kernel_rfl) t1
      obtain ⟨z2, e2, _, q2⟩ := DataW.trod_int Try.underlying3 t2
      obtain ⟨a3, n3, c3, z3, rfl, rk3, uk3⟩ := bools_of Try.underlying38 Try.underlying4 (by kernel_rfl) t3
      simp only [List.cons.injEq, and_true] at e0 e2
      subst e0 e2
      have hsp : x.spot = none := by
        obtain ⟨cs0, h10, _⟩ := hall 0 (by omega)
        rw [hC] at h10
        obtain ⟨_, hlen0, hcell0⟩ := World.cells?_some h10
        have c0 := hcell0 0 (by omega)
        obtain ⟨xx0, xx1, xx2, xx3, rfl⟩ := list_ra hlen0
        have := World.cell?_spot c0
        simpa [Addr.add] using this
      obtain ⟨b, o, sp⟩ := x
      have hsp' : sp = none := hsp
      subst hsp'
      have cc : ∀ j, j < 4 → w.cell? ⟨b, o + i * 4 + j, none⟩ = ([.int .i64 z0, .slice a1 n1 c1, .int .i64 z2, .slice a3 n3 c3] : List Value)[j]? := by
        intro j hj
        have hcj := hcell j (by simpa using hj)
        rw [Go.WideShapes.add_plain, Go.WideShapes.add_plain] at hcj
        exact hcj
      have hbulk : z1.length + z3.length + 1 ≤ Rows.uptoBulk (D i) := by
        rw [Prod.mk.injEq] at hDi
        rw [hDi.1]
        have h35 := bulk_two (l := xs.map (·.1)) (i := 1) (j := 3) (x := y1.1) (y := y3.1) (by omega) (by rw [List.getElem?_map, s1]; rfl) (by rw [List.getElem?_map, s3]; rfl)
        simp only [Rows.uptoBulk]
        omega
      exact ⟨⟨z0, z1, z2, z3⟩, ⟨b, o, rfl, ⟨a1, n1, c1, a3, n3, c3, cc 0 (by omega), cc 1 (by omega), cc 2 (by omega), cc 3 (by omega), rk1, rk3⟩, q0, q2⟩, hbulk⟩
    obtain ⟨A, hA⟩ := Go.Deep.choose_lt each
    refine ⟨(List.range n).map A, ⟨by simp, fun i B hB => ?_⟩, ?_⟩
    rotate_left
    · have h1 := bulk_ra (List.range n) A D (fun r hr => (hA r (List.mem_range.1 hr)).2)
      rw [List.length_range] at h1
      rw [Prod.mk.injEq] at hxd
      rw [hxd.1]
      simp only [Rows.uptoBulk]
      omega
    rw [List.getElem?_map] at hB
    by_cases hi : i < n
    · rw [List.getElem?_range hi] at hB
      simp at hB
      subst hB
      exact (hA i hi).1
    · rw [List.getElem?_eq_none (by simp; omega)] at hB
      simp at hB
set_option maxRecDepth 100000 in
theorem ras_open {H : Type} {enc : TypeId × Value → H} {w : World} {base : Nat} {held : Bool} {a : Option Addr} {n c : Nat} {d : DataW H} {p : List MemPlace} (h : DataW.Trod enc Try.prog w base (fun _ => true) held 60 (.slice a n c) d p) : ∃ L, RasAt w a n L ∧ sumRa L + n ≤ Rows.uptoBulk d :=
  open_ra Try.underlying63 (by kernel_rfl) (by kernel_rfl) h
end Go.Proofs.Ytlhpdkapddnbcaa

namespace Go.Proofs.Ytlhpdkapddnbcaa
open Go.RowKit
theorem RaAt.below {w w' : World} {b off : Nat} {A : RaP} (h : RaAt w b off A) (hb : Below w.heap.size w w') : RaAt w' b off A := by
  obtain ⟨⟨ba, bn, bc, ka, kn, kc, c0, c1, c2, c3, hr, hk⟩, hwf⟩ := h
  have hc : ∀ (i : Nat) (v : Value), w.cell? ⟨b, i, none⟩ = some v → w'.cell? ⟨b, i, none⟩ = some v := fun i v hv => by
    rw [← hv]; exact World.cell?_of_block (a := ⟨b, i, none⟩) (hb.block b (block_lt_of_cell hv))
  exact ⟨⟨ba, bn, bc, ka, kn, kc, hc _ _ c0, hc _ _ c1, hc _ _ c2, hc _ _ c3, hr.below hb, hk.keep hb⟩, hwf⟩
theorem RasAt.below {w w' : World} {a : Option Addr} {n : Nat} {L : List RaP} (h : RasAt w a n L) (hb : Below w.heap.size w w') : RasAt w' a n L :=
  ⟨h.len, fun i A hA => by
    obtain ⟨b, o, e, hx⟩ := h.at_ i A hA
    exact ⟨b, o, e, hx.below hb⟩⟩
theorem sumRa_take : ∀ {L : List RaP} {k : Nat} {A : RaP}, L[k]? = some A → sumRa (L.take (k + 1)) = sumRa (L.take k) + (A.bs.length + A.keep.length) ∧ sumRa (L.take (k + 1)) ≤ sumRa L
  | [], _, _, h => by simp at h
  | B :: L, 0, A, h => by
    simp at h
    subst h
    simp [sumRa]
  | B :: L, k + 1, A, h => by
    have := sumRa_take (L := L) (k := k) (A := A) (by simpa using h)
    rw [List.take_succ_cons, List.take_succ_cons]
    simp only [sumRa]
    omega
def fewR (L : List RaP) : Bool := decide ((L.length : Int) ≤ 60) && decide ((sumRa L : Int) ≤ 16384)
set_option linter.unusedSimpArgs false in
set_option linter.unusedVariables false in
set_option maxRecDepth 100000 in
set_option maxHeartbeats 2000000 in
theorem belowD8 {B : Nat} {a w : World} (h : Below B a w) (n : Nat) : Below B a (w.drewN n) := ⟨h.os, h.tape, h.output, h.size, h.block⟩
set_option maxRecDepth 100000 in
theorem few8_any (a : Option Addr) (n c : Nat) (L : List RaP) (w : World) (h : RasAt w a n L) (hb : sumRa L + n ≤ 1048576) : Calls Try.prog 24 #[.slice a n c] w fun e w' => e = .returned (.bool (fewR L)) ∧ Below w.heap.size w w' := by
  have H := Lib.hid h
  have HL := Lib.hid h.len
  clear h
  have hE : fewR L = (decide ((n : Int) ≤ 60) && decide ((sumRa L : Int) ≤ 16384)) := by unfold fewR; rw [HL.out]
  rw [hE]
  clear hE
  go_enter Try.func24, Try.ntmps24
  go_wp2_with fail
  go_loopw [3, 4] (fun x i wr => ∃ k : Nat, k ≤ n ∧ i = .int .i64 k ∧ x = .int .i64 (sumRa (L.take k)) ∧ Hid (Below w.heap.size w wr)) (fun _ i _ => n - (intOf i).toNat)
  case atStart => exact ⟨0, by omega, rfl, rfl, Below.refl _ _⟩
  case round =>
    obtain ⟨k, hk, rfl, rfl, hB⟩ := hrel
    by_cases hkm : k < n
    · have dkm : decide ((k : Int) < n) = true := decide_eq_true (by omega)
      obtain ⟨A, hA⟩ : ∃ A, L[k]? = some A := ⟨_, List.getElem?_eq_getElem (by rw [HL.out]; exact hkm)⟩
      obtain ⟨b, o, rfl, hat⟩ := (H.out.below hB.out).at_ k A hA
      obtain ⟨⟨ba, bn, bc, ka, kn, kc, c0, c1, c2, c3, hr, hkb⟩, hwf⟩ := hat
      obtain ⟨s1, s2⟩ := sumRa_take hA
      rw [hr.len, hkb.len] at s1
      obtain ⟨S, hS⟩ : ∃ S, sumRa (L.take k) = S := ⟨_, rfl⟩
      rw [hS] at s1
      have w1 : IntKind.i64.wrap ((S : Int) + bn) = (S : Int) + bn := by rw [IntKind.wrap_i64]; omega
      have w2 : IntKind.i64.wrap ((S : Int) + bn + kn) = (S : Int) + bn + kn := by rw [IntKind.wrap_i64]; omega
      have S1 := Lib.hid s1
      rw [hS]
      clear hA hr hkb hwf s1 s2 hS c0 c2
      go_wp2_with fail
      go_quiet (fail)
      go_wp2_with fail
      go_roundw
      case rel => exact ⟨k + 1, by omega, by go_num, by rw [S1.out]; go_num, belowD8 hB.out _⟩
      case measure => simp [intOf] <;> omega
    · obtain rfl : k = n := by omega
      have ht : L.take k = L := by rw [← HL.out]; exact List.take_length
      rw [ht]
      clear ht
      cases h1 : decide ((k : Int) ≤ 60) with
      | true =>
        go_wp2_with fail
        go_ret
        exact ⟨by rw [h1]; rfl, hB.out⟩
      | false =>
        go_wp2_with fail
        go_ret
        exact ⟨by rw [h1]; rfl, hB.out⟩
end Go.Proofs.Ytlhpdkapddnbcaa

namespace Go.Proofs.Ytlhpdkapddnbcaa
open Go.RowKit
theorem bgT_bd (n size : Nat) : 0 ≤ bgT n size ∧ bgT n size ≤ 4611686018427387908 ∧ bgT n size % 2 = 0 := fmT_bd _ _ _
theorem fmJ_ok {lo n size : Nat} {t : Int} (h4 : 4 ≤ n) (hn : n ≤ 65536) (hlo : lo ≤ 65536) (hs : 64 ≤ size) (hs2 : size ≤ 4096) (h0 : 0 ≤ t) (h1 : t ≤ 4611686018427387908) : JOk (fmJ lo n size t) :=
  ⟨h4, hn, hlo, hs, hs2, hdI_wf (by omega) (by omega), by show (0 : Int) < (n : Int) - 2; omega, Nat.zero_le _, fun k hk => by cases hk⟩
theorem fmJ_dok {st : Dk} {lo n size : Nat} {t : Int} (hs : st.size = size) (hn : lo + n ≤ st.kept.length) : DOk (fmS st lo size t) (fmJ lo n size t) :=
  ⟨hs, by show lo + n ≤ (settleK _ _ _ _).length; rw [settleK_len]; exact hn⟩
/-- What a fresh journal's room is. -/
theorem fmJ_room {lo n size : Nat} {t : Int} (h4 : 4 ≤ n) : roomN (fmJ lo n size t) = min (((n - 2) * (size - 32) : Nat) : Int) 1048576 := by
  unfold roomN
  rw [if_neg (by show ¬ 0 = n - 2; omega)]
  rfl
/-- The sectors do not turn by a cut, where nothing is pending. -/
theorem secB_cut {st : Dk} {keep : List Bool} (hp : st.pend = []) (s : Nat) : secB { cutS st keep with off := false } s = secB st s := by
  rw [secB_kept hp, secB_kept (st := { cutS st keep with off := false }) rfl]
  show ((settleK _ 0 st.pend st.kept)[s]?).getD [] = _
  rw [hp]
  rfl
/-- Begun, one record appended: it holds that record. -/
theorem fm_app {st : Dk} {lo n size : Nat} {t : Int} {l : List Int} (hoff : st.off = false) (hp : st.pend = []) (harm : st.armed = 0) (hsz : st.size = size) (h4 : 4 ≤ n) (hn65 : n ≤ 65536) (hlo : lo ≤ 65536) (hn : lo + n ≤ st.kept.length) (hs : 64 ≤ size) (hs2 : size ≤ 4096) (h0 : 0 ≤ t) (h1 : t ≤ 4611686018427387908) (h2 : t % 2 = 0) (hf : ¬ roomN (fmJ lo n size t) < l.length) :
    HoldsK (secB (apS (fmS st lo size t) (fmJ lo n size t) l).st) lo n size (hdI (t + 1)).nx.up [l] := by
  have harm2 : (fmS st lo size t).armed = 0 := by
    show (if (if st.armed = 0 then (0 : Int) else st.armed - 1) = 0 then (0 : Int) else _) = 0
    rw [if_pos harm, if_pos rfl]
  exact ap_holds (J := fmJ lo n size t) (L := []) (fmJ_ok h4 hn65 hlo hs hs2 h0 h1) (fmJ_dok hsz hn) hoff rfl (.inl harm2) hf (fm_holds hp h4 hn h0 h1 h2) rfl (by show (1 : Int) < _; decide) (by show t + 1 < _; omega)
end Go.Proofs.Ytlhpdkapddnbcaa

namespace Go.Proofs.Ytlhpdkapddnbcaa
open Go.RowKit
def kwT : Int := fmT 6 (fun k => secB (dk0 10 64) (2 + k)) 2
def kwA : Ap := apS (fmS (dk0 10 64) 2 64 kwT) (fmJ 2 6 64 kwT) [97, 98, 99]
def kwS : Dk := { cutS kwA.st [] with off := false }
theorem kwT_bd : 0 ≤ kwT ∧ kwT ≤ 4611686018427387908 ∧ kwT % 2 = 0 := fmT_bd _ _ _
theorem kw_room : ¬ roomN (fmJ 2 6 64 kwT) < (3 : Nat) := by rw [fmJ_room (by omega)]; decide
theorem kw_holds : HoldsK (secB kwA.st) 2 6 64 (hdI (kwT + 1)).nx.up [[97, 98, 99]] := fm_app (st := dk0 10 64) (l := [97, 98, 99]) rfl rfl rfl rfl (by omega) (by omega) (by omega) (by decide) (by omega) (by omega) kwT_bd.1 kwT_bd.2.1 kwT_bd.2.2 kw_room
theorem kw_whole : kwA.e = 0 ∧ kwA.st.off = false ∧ kwA.st.pend = [] ∧ kwA.st.size = 64 ∧ kwA.st.reads = 2 ∧ kwA.st.kept.length = 10 := by
  obtain ⟨e1, _, e3, e4, e5, e6, _, _, e9⟩ := ap_whole (st := fmS (dk0 10 64) 2 64 kwT) (J := fmJ 2 6 64 kwT) (l := [97, 98, 99]) rfl rfl (.inl rfl) kw_room
  refine ⟨e1, e3, e4, e5, e6, ?_⟩
  show (apS _ _ _).st.kept.length = 10
  rw [e9, List.length_set, setAll_len]
  show (settleK _ _ _ _).length = 10
  rw [settleK_len]
  show (List.replicate 10 _).length = 10
  rw [List.length_replicate]
theorem kw_open : opR (secB kwS) 2 6 64 = some ((hdI (kwT + 1)).nx.up, [[97, 98, 99]]) := by
  have h : secB kwS = secB kwA.st := funext fun s => secB_cut kw_whole.2.2.1 s
  rw [h]
  exact opR_holds kw_holds (by omega) (by omega) (by omega)
end Go.Proofs.Ytlhpdkapddnbcaa

namespace Go.Proofs.Ytlhpdkapddnbcaa
open Go.RowKit
section
variable {P : Program}
theorem run_mark {w : World} {t e : TypeId} {C : Array Value} {q n c : Nat} (ht : P.underlying t = some (.slice e)) (he : P.underlying e = some (.int .u8)) (row : w.heap[q]? = some (.cells C e (0, 0))) :
    ∃ w', (convert t t (.slice (some ⟨q, 0, none⟩) n c)).run P w = .ok (.slice (some ⟨q, 0, none⟩) n c) w' ∧ w'.heap[q]? = some (.cells C e (C.size, C.size + 1)) ∧ w.grownBy w' (some q) := by
  have hsh : w.shape? q = some (e, C.size) := by unfold World.shape?; rw [row]
  have hq : q < w.heap.size := (Array.getElem?_eq_some_iff.1 row).1
  have hz : w.heap[q] = .cells C e (0, 0) := (Array.getElem?_eq_some_iff.1 row).2
  refine ⟨w.freeze ⟨q, C.size, none⟩ 1, ?_, ?_, ?_⟩
  · simp [convert, run_underlying ht, run_underlying he, markStringish, hsh]
  · unfold World.freeze
    rw [if_neg (by decide)]
    show (w.heap.modify q _)[q]? = _
    rw [Array.getElem?_modify, if_pos rfl, row]
    rfl
  · unfold World.freeze
    rw [if_neg (by decide)]
    exact ⟨rfl, rfl, rfl, by simp, fun k _ hk => by
      show (w.heap.modify q _)[k]? = _
      rw [Array.getElem?_modify, if_neg (fun e => hk (by rw [e]))]⟩
theorem rd_row {w : World} {q : Nat} {l : List Int} {e : TypeId} {fr : Nat × Nat} (row : w.heap[q]? = some (.cells (l.map (Value.int .u8)).toArray e fr)) (hl : l.length ≤ 1000) (hw : ∀ x ∈ l, (Lit.int .u8 x).wf = true) : RdAt .u8 w (some ⟨q, 0, none⟩) l.length l.length l :=
  ⟨rfl, Nat.le_refl _, by unfold maxLen; omega, fun i hi => ⟨_, _, rfl, by rw [cell_of_row w _ _ _ _ _ row, Nat.zero_add, List.getElem?_toArray, List.getElem?_map, List.getElem?_eq_getElem hi, nth_eq hi]; rfl⟩, hw, fun h => by cases h⟩
end
section
variable {P : Program} {ds : List Deferred} {t : Array Value} {K : Act → World → Prop} {Q : Exit → Act → World → Prop} {o : Oper}
theorem wp_mark {T e : TypeId} (d : Tmp) (hd : o.dst = some d) (hs : P.underlying T = some (.slice e)) (he : P.underlying e = some (.int .u8)) (x : Operand) (ho : o.op = .convert T T x)
    {w : World} {C : Array Value} {q n c : Nat} (hx : (Act.mk t ds).eval x = .slice (some ⟨q, 0, none⟩) n c) (row : w.heap[q]? = some (.cells C e (0, 0)))
    (h : ∀ w', w'.heap[q]? = some (.cells C e (C.size, C.size + 1)) → w.grownBy w' (some q) → K ⟨t.setIfInBounds d (.slice (some ⟨q, 0, none⟩) n c), ds⟩ w') : Oper.wp P o ⟨t, ds⟩ w K Q := by
  obtain ⟨w', hr, h1, h2⟩ := run_mark (P := P) (n := n) (c := c) hs he row
  refine wp_of_run d hd ?_ (h w' h1 h2)
  unfold execOp
  simp only [ho, hx]
  simp [hr, Result.andThen]
end
section
variable {P : Program} {k : IntKind} {T e bytes : Nat} {ops : Array Oper} {rest : List Oper} {o : Oper} {a : Act} {Q : Exit → Act → World → Prop}
/-- append(s, x) where s is full: the result is a row of the call's own. -/
theorem run_app_full (hT : P.underlying T = some (.slice e)) (hI : elemInfo P e k bytes) (hby : bytes ≤ 8) (ty : TypeId) (w : World) (a0 : Option Addr) (n : Nat) (l : List Int) (hrd : RdAt k w a0 n n l)
    (q : Int) (hq : (Lit.int k q).wf = true) (hlen : l.length ≤ 1000000) :
    ∃ v' w', (Builtin.append_ #[T, T] ty #[.slice a0 n n, .slice (some ⟨w.heap.size, 0, none⟩) 1 1]).run P (w.alloc (.cells #[.int k q] e)) = .ok v' w' ∧ Owns k e w' w.heap.size v' (l ++ [q]) ∧ Below w.heap.size w w' := by
  have hl := hrd.len
  obtain ⟨i, hi, hz0, hz1, hz2⟩ := info_parts hI
  have hwf : ∀ z ∈ l ++ [q], (Lit.int k z).wf = true := by
    intro z hz'
    rcases List.mem_append.1 hz' with h | h
    · exact hrd.wf z h
    · rw [List.mem_singleton.1 h]; exact hq
  cases a0 with
  | none =>
    obtain rfl : n = 0 := hrd.void rfl
    obtain rfl : l = [] := List.eq_nil_of_length_eq_zero hl
    obtain ⟨v', w', hr, h1, h2⟩ := run_app_one (P := P) hT hI hby ty w w.heap.size (.slice none 0 0) [] (Owns.nil _ _ _ _) q hq (by simp) (Nat.le_refl _)
    exact ⟨v', w', hr, h1, h2.fromNone⟩
  | some ad =>
    have hnew : ∀ j u, ([Value.int k q] : List Value)[j]? = some u → (w.alloc (.cells #[.int k q] e)).cell? ((⟨w.heap.size, 0, none⟩ : Addr).add j) = some u := by
      intro j u hu
      cases j with
      | zero => simp at hu; subst hu; rw [Addr.add_lit]; simp
      | succ j => simp at hu
    have hold : ∀ j u, (l.map (Value.int k))[j]? = some u → (w.alloc (.cells #[.int k q] e)).cell? (ad.add j) = some u := by
      intro j u hu
      have hj : j < n := by have := (List.getElem?_eq_some_iff.1 hu).1; simpa [hl] using this
      obtain ⟨b, o', e', hc⟩ := (hrd.alloc (.cells #[.int k q] e)).cell j hj
      injection e' with e'
      subst e'
      rw [Addr.add_lit]
      rw [List.getElem?_map, List.getElem?_eq_getElem (by omega)] at hu
      rw [nth_eq (by omega)] at hc
      exact hc.trans hu
    have hbb : (n + 1) * bytes ≤ (n + 1) * 8 := Nat.mul_le_mul_left _ hby
    have hr := run_append_grow (P := P) (w.alloc (.cells #[.int k q] e)) T ty e i (.int k 0) hT hi hz0 ad n n (l.map (Value.int k)) (by rw [List.length_map, hz1, hl, Nat.mul_one]) hold ⟨w.heap.size, 0, none⟩ 1 1 [.int k q] (by rw [hz1]; rfl) hnew (by omega) (by omega) (growslice_fits (by omega) (by rw [hz2]; omega))
    have hge := grownCap_ge (w.alloc (.cells #[.int k q] e)) (n + 1) n e
    have hcm : grownCap (w.alloc (.cells #[.int k q] e)) (n + 1) n e ≤ maxLen := grownCap_le_maxLen _ (n + 1) n e (by unfold maxLen; omega)
    refine ⟨_, _, hr, ⟨hwf, .inr ⟨by simp, .inr ⟨_, _, _, by rw [List.length_append, hl]; rfl, by simp, heap_alloc_new (w.alloc (.cells #[.int k q] e)).drew _, by rw [List.length_append, hl]; exact hge, hcm, ?_, ?_⟩⟩⟩, ?_⟩
    · rw [Array.size_append, Array.size_append, size_zeroCells, List.size_toArray, List.length_map, hl]
      simp [Value.cells]
      omega
    · rw [Array.toList_append, Array.toList_append, List.map_append, Nat.mul_one]
      exact List.take_left' (by simp)
    · have h1 : Below w.heap.size w (w.alloc (.cells #[.int k q] e)).drew := ⟨rfl, rfl, rfl, by simp, fun j hj => Below.heap_alloc w _ j hj⟩
      exact h1.alloc h1.size _
theorem app_one_full (hT : P.underlying T = some (.slice e)) (hI : elemInfo P e k bytes) (hby : bytes ≤ 8) (hg : o.guard = none) (s x : Operand)
    (ho : o.op = .call { callee := .builtin .append, args := #[s, x], argTypes := #[T, T] }) (w : World) (a0 : Option Addr) (n : Nat) (l : List Int) (hs : a.eval s = .slice a0 n n) (hrd : RdAt k w a0 n n l)
    (q : Int) (hx : a.eval x = .slice (some ⟨w.heap.size, 0, none⟩) 1 1) (hq : (Lit.int k q).wf = true) (hlen : l.length ≤ 1000000)
    (h : ∀ v' w', Owns k e w' w.heap.size v' (l ++ [q]) → Below w.heap.size w w' → wpList P ops Q rest (a.put o.dst v') w') :
    wpList P ops Q (o :: rest) a (w.alloc (.cells #[.int k q] e)) := by
  refine wpList_plain hg fun K hK => ?_
  obtain ⟨v', w', hr, h1, h2⟩ := run_app_full (P := P) hT hI hby o.type w a0 n l hrd q hq hlen
  unfold Oper.wp execOp
  simp only [ho, resolve, invoke, builtin, Sem.run_bind, Sem.run_pure, Result.andThen_ok, List.map_toArray, List.map_cons, List.map_nil, hs, hx, hr]
  exact hK _ _ (h v' w' h1 h2)
end
end Go.Proofs.Ytlhpdkapddnbcaa

namespace Go.Proofs.Ytlhpdkapddnbcaa
open Go.RowKit
set_option linter.unusedSimpArgs false in
set_option linter.unusedVariables false in
set_option maxRecDepth 100000 in
set_option maxHeartbeats 4000000 in
theorem known8 (w0 : World) : Calls Try.prog 9 #[] w0 fun e w' => e = .returned (.bool true) ∧ Below w0.heap.size w0 w' := by
  have HNW := Lib.hid (new_any 10 64 w0 (by decide))
  have HFM : Hid (∀ (Z : Nat → Prop) (d : Nat) (w : World), DkIn w Z d (dk0 10 64) → Calls Try.prog 14 #[.pointer (some ⟨d, 0, none⟩), .int .i64 2, .int .i64 6] w fun e w' => ∃ r, e = .returned (.tuple #[.pointer (some ⟨r, 0, none⟩), .nilIface]) ∧ ∃ Q', RiIn w' Q' r d (fmS (dk0 10 64) 2 64 kwT) (fmJ 2 6 64 kwT) ∧ Tnd Z Q' w w') := fun Z d w h => format_any Z d (dk0 10 64) 2 6 w h (by omega) (by show 2 + 6 ≤ (List.replicate 10 _).length; rw [List.length_replicate]; omega) rfl rfl rfl (by show (0 : Int) + 2 ≤ _; omega) (by show (0 : Int) + 2 ≤ _; omega)
  have HAP : Hid (∀ (Q : Nat → Prop) (r d b : Nat) (w : World), RiIn w Q r d (fmS (dk0 10 64) 2 64 kwT) (fmJ 2 6 64 kwT) → RdAt .u8 w (some ⟨b, 0, none⟩) 3 3 [97, 98, 99] → ¬ Q b → Calls Try.prog 12 #[.pointer (some ⟨r, 0, none⟩), .slice (some ⟨b, 0, none⟩) 3 3] w fun e w' => e = .returned (.tuple #[.int .u64 1, .int .i64 0]) ∧ ∃ Q', RiIn w' Q' r d kwA.st kwA.J ∧ Tnd Q Q' w w') := fun Q r d b w h1 h2 h3 => by
    refine (append_on Q r d _ _ _ 3 3 [97, 98, 99] w h1 h2 (fun x hx _ => by injection hx with hx; rw [← hx]; exact h3) kw_room rfl rfl (by show (1 : Int) < _; decide) (by have := kwT_bd.2.1; show kwT + 1 < _; omega) (by show (0 : Int) + 1 + 1 + 70000 ≤ _; decide)).mono ?_
    rintro e w' ⟨he, h⟩
    refine ⟨?_, h⟩
    rw [he]
    show ApE (fmJ 2 6 64 kwT).h.next kwA = _
    unfold ApE
    rw [kw_whole.1]
    rfl
  go_enter Try.func9, Try.ntmps9
  go_wp2_with fail
  refine HNW.out.mono ?_
  rintro e w1 ⟨d, Z, rfl, hd1, hz1, hb1⟩
  have D1 := Lib.hid hd1
  have Z1 := Lib.hid hz1
  have B1 := Lib.hid hb1
  clear hd1 hz1 hb1
  go_wp2_with fail
  refine (HFM.out Z d w1 D1.out).mono ?_
  rintro e w2 ⟨r, rfl, Q, hr2, ht2⟩
  have R2 := Lib.hid hr2
  have B2 := Lib.hid (B1.out.trans (ht2.below Z1.out B1.out.size))
  have Q2 := Lib.hid (ht2.base Z1.out B1.out.size)
  clear hr2 ht2
  have hrow := heap_alloc_new w2 (.cells #[.int .u8 97, .int .u8 98, .int .u8 99] 5)
  have hba : Below w2.heap.size w2 (w2.alloc (.cells #[.int .u8 97, .int .u8 98, .int .u8 99] 5)) := (Below.refl _ _).alloc (Nat.le_refl _) _
  obtain ⟨w3, hmk, hr9, hg9⟩ := run_mark (P := Try.prog) (t := 36) (n := 3) (c := 3) u8TR Try.underlying5 hrow
  have hbt := hba.trans (show Below w2.heap.size (w2.alloc (.cells #[.int .u8 97, .int .u8 98, .int .u8 99] 5)) w3 from (Below.refl _ _).grown hg9 hba.size (fun g h => by injection h with h; omega))
  have R3 := Lib.hid (R2.out.below hbt)
  have B3 := Lib.hid (B2.out.trans (hbt.mono B2.out.size))
  have HR9 := Lib.hid hr9
  have hq2 : ¬ Q w2.heap.size := fun h => Nat.lt_irrefl _ (R2.out.lt _ h)
  clear hr9 hg9 hrow hba hbt
  go_wp2_with fail
  refine (HAP.out Q r d w2.heap.size w3 R3.out (rd_row (l := [97, 98, 99]) HR9.out (by decide) (by decide)) hq2).mono ?_
  rintro e w4 ⟨rfl, Q4, hr4, ht4⟩
  have B4 := Lib.hid (B3.out.trans (ht4.below Q2.out B3.out.size))
  have Q4_ := Lib.hid (ht4.base Q2.out B3.out.size)
  obtain ⟨⟨Z4, sv4, hd4, _, _, hz4, _⟩, _⟩ := hr4
  have D4 := Lib.hid hd4
  have Z4_ : Hid (∀ k, Z4 k → w0.heap.size ≤ k) := fun k hk => Q4_.out k (hz4 k hk)
  clear hd4 hz4 ht4 hmk
  go_wp2_with fail
  refine (cut_any Z4 d kwA.st w4 D4.out none 0 0 [] ⟨rfl, Nat.le_refl _, by unfold maxLen; omega, fun i hi => by omega, fun _ => rfl⟩ (fun x hx => by cases hx)).mono ?_
  rintro e w5 ⟨rfl, hd5, ht5⟩
  have D5 := Lib.hid hd5
  have B5 := Lib.hid (B4.out.trans (ht5.below Z4_.out B4.out.size))
  clear hd5 ht5
  go_wp2_with fail
  refine (on_any Z4 d _ w5 D5.out).mono ?_
  rintro e w6 ⟨rfl, hd6, ht6⟩
  have D6 : Hid (DkIn w6 Z4 d kwS) := hd6
  have B6 := Lib.hid (B5.out.trans (ht6.below Z4_.out B5.out.size))
  clear hd6 ht6
  have HOP := Lib.hid (ropen_any Z4 d kwS 2 6 w6 D6.out (by omega) (by show 2 + 6 ≤ (settleK _ _ _ _).length; rw [settleK_len, kw_whole.2.2.2.2.2]; omega) rfl (by show kwA.st.reads + _ ≤ _; rw [kw_whole.2.2.2.2.1]; decide))
  go_wp2_with fail
  refine HOP.out.mono ?_
  rintro e w7 ⟨R7, hR7a, hR7b, hpost⟩
  rw [show kwS.size = 64 from kw_whole.2.2.2.1, kw_open] at hpost
  obtain ⟨r7, Q7, v7, vs7, rfl, hr7, hW7, ht7⟩ := hpost
  have B7 := Lib.hid (B6.out.trans (ht7.below Z4_.out B6.out.size))
  have Q7_ := Lib.hid (ht7.base Z4_.out B6.out.size)
  obtain ⟨⟨Z8, sv8, hd8, _⟩, _⟩ := hr7
  have W7 := Lib.hid hW7
  have HNO := Lib.hid (ropen_no Z8 d (kwS.rd R7) 8 6 w7 hd8 (by omega) (by show 6 ≤ (settleK _ _ _ _).length; rw [settleK_len, kw_whole.2.2.2.2.2]; omega) (by show (settleK _ _ _ _).length < 8 + 6; rw [settleK_len, kw_whole.2.2.2.2.2]; omega) (by omega))
  clear hW7 ht7 hd8
  go_wp2_with fail
  refine HNO.out.mono ?_
  rintro e w8 ⟨⟨v8, rfl, hf8⟩, hb8⟩
  have W8 := Lib.hid (W7.out.below hb8)
  have B8 := Lib.hid (B7.out.trans (hb8.mono B7.out.size))
  obtain ⟨g8, rfl, hc8⟩ := hf8
  obtain ⟨a7, c7, rfl⟩ := W8.out.shape
  have hvl : vs7.length = 1 := W8.out.len
  obtain ⟨a9, n9, c9, hv9, hr9, _⟩ := W8.out.each 0 [97, 98, 99] rfl
  have hn9 : n9 = 3 := hr9.len.symm
  subst hn9
  obtain ⟨g9, rfl, hcell⟩ : ∃ g, a7 = some ⟨g, 0, none⟩ ∧ w8.cell? ⟨g, 0, none⟩ = some (.slice a9 3 c9) := by
    have ho := W8.out.own
    rcases ho.2 with ⟨_, h⟩ | ⟨g, cap, cur, hv, _⟩
    · omega
    · injection hv with q1 q2 q3
      subst q1 q3
      exact ⟨g, rfl, by rw [ho.cellAt 0 (by omega)]; exact hv9⟩
  have hcv := conv_rd (P := Try.prog) (src := 36) (dst := 9) u8TR Try.underlying5 Try.underlying9 hr9
  rw [show strOfNums [97, 98, 99] = ⟨#[97, 98, 99]⟩ from by decide +kernel] at hcv
  have HIS := Lib.hid (is_fail g8 1 w8 hc8)
  clear hb8
  go_wp2_with (first | (go_at_call 23; refine HIS.out.mono ?_; rintro e w9 ⟨rfl, rfl⟩))
  go_ret
  exact ⟨rfl, B8.out⟩
end Go.Proofs.Ytlhpdkapddnbcaa

namespace Go.Proofs.Ytlhpdkapddnbcaa
open Go.RowKit
theorem Begun.pls {w0 w1 w : World} {g d r : Nat} {Q : Nat → Prop} {n size : Nat} (h : Begun w1 w g d r Q n size) (b : Below w0.heap.size w0 w1) (h4 : 4 ≤ n) : PlS ⟨g, d, n, size, (fmS (dk0 (n + 4) size) 2 size (bgT n size)).kept, w0, fun _ => False⟩ w0 w 0 [] := by
  obtain ⟨t0, t1, t2⟩ := bgT_bd n size
  have hlen : (dk0 (n + 4) size).kept.length = n + 4 := by show (List.replicate (n + 4) _).length = _; rw [List.length_replicate]
  refine ⟨Q, r, _, _, ⟨.pointer (some ⟨r, 0, none⟩), .slice none 0 0, .slice none 0 0, false, 0, 1, []⟩, ⟨h.row, h.ri, h.ng, fun k hk => Nat.le_trans b.size (h.base k hk), Nat.le_trans b.size h.gb, b.trans (h.below.mono b.size), rfl, ⟨rfl, rfl, ?_, ?_, ?_, ?_, ?_, fun s _ => rfl⟩, rfl, rfl, rfl, fm_holds (st := dk0 (n + 4) size) (lo := 2) rfl h4 (by show 2 + n ≤ _; rw [hlen]; omega) t0 t1 t2, rfl, ⟨none, 0, 0, rfl, RowsRd.nil _ _⟩, fun x => ⟨by simp, by simp⟩, fun _ h => h.elim⟩, rfl, rfl, rfl⟩
  · show (settleK _ _ _ _).length = _
    rw [settleK_len]
    exact hlen
  · show (0 : Int) + 1 + 1 ≤ 1000 + 70000 * ((0 : Nat) : Int)
    omega
  · show (0 : Int) + 2 ≤ 1000 + 8589934592 * ((0 : Nat) : Int)
    omega
  · show (1 : Int) ≤ 1 + ((0 : Nat) : Int)
    omega
  · show bgT n size + 1 ≤ 4611686018427387909 + ((0 : Nat) : Int)
    omega
theorem put_below8 (w : World) (B b i : Nat) (x : Value) (h : B ≤ b) : Below B w (w.setCell ⟨b, i, none⟩ x) :=
  ⟨rfl, rfl, rfl, by simp, fun k hk => heap_setCell_other w ⟨b, i, none⟩ k x (by show k ≠ b; omega)⟩
/-- An act's copy in block b. -/
def rowAct (op : Int) (ba : Option Addr) (bn bc : Nat) (N : Int) (ka : Option Addr) (kn kc : Nat) : Obj := .cells #[.int .i64 op, .slice ba bn bc, .int .i64 N, .slice ka kn kc] 63 (0, 0)
theorem sumRa_mem : ∀ {L : List RaP} {A : RaP}, A ∈ L → A.bs.length + A.keep.length ≤ sumRa L
  | B :: L, A, h => by
    rcases List.mem_cons.1 h with h | h
    · subst h
      simp only [sumRa]
      omega
    · have := sumRa_mem h
      simp only [sumRa]
      omega
theorem PlS.below {C : PlC} {w0 w : World} {i : Nat} {L : List (List Int)} (h : PlS C w0 w i L) : Below w0.heap.size w0 w := by
  obtain ⟨_, _, _, _, _, hp, _⟩ := h
  exact hp.below
/-- The power goes at the end, and the journal is opened. -/
theorem PlS.steady {C : PlC} {w0 w : World} {i : Nat} {L : List (List Int)} (h : PlS C w0 w i L) : ∃ Q r st J lv mv may ma, PlR C w0 w Q i r st J L ⟨.pointer (some ⟨r, 0, none⟩), lv, mv, may, ma, J.h.first, L⟩ := by
  obtain ⟨Q, r, st, J, V, hp, h1, h2, h3⟩ := h
  obtain ⟨rv, lv, mv, may, ma, f, M⟩ := V
  obtain rfl : rv = .pointer (some ⟨r, 0, none⟩) := h1
  obtain rfl : f = J.h.first := h2
  obtain rfl : M = L := h3
  exact ⟨Q, r, st, J, lv, mv, may, ma, hp⟩
end Go.Proofs.Ytlhpdkapddnbcaa
