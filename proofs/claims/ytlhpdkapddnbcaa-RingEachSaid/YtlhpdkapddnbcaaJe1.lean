/- A slice of slices of bytes that came in: how it reads, and its bulk. ring: the chapter's example, plainly: what is appended is there behind a cut. ring: known, plainly: what its disk holds. []byte("..") of a constant: its row gets a mark behind its last cell; append to a slice that is full. No program in sight. ring: known: walked. ring: a journal over a whole disk, record behind record; what an Append, a cut, an Open make of it. -/
import Derived.Test.YtlhpdkapddnbcaaJk4
import Derived.Test.YtlhpdkapddnbcaaRows
import Derived.Deep.Matrix
import Derived.OpenShut
import Derived.Test.YtlhpdkapddnbcaaJk16
import Derived.Test.YtlhpdkapddnbcaaJk3
import Derived.Test.YtlhpdkapddnbcaaJk1
import Derived.Test.YtlhpdkapddnbcaaJk5
import Derived.Lib.SlBytesConst
import Derived.Test.YtlhpdkapddnbcaaJk17
namespace Go.Proofs.Ytlhpdkapddnbcaa
open Go.ChangeShapes Go.WideShapes Go.ChangeAt Go.RowKit
theorem bulk_one {H : Type} (d : DataW H) : 1 ≤ Rows.uptoBulk d := by
  cases d with
  | lit l => cases l <;> simp [Rows.uptoBulk]
  | nil => simp [Rows.uptoBulk]
  | ptr d => simp [Rows.uptoBulk]
  | slice elems spare => simp [Rows.uptoBulk]
  | agg parts => simp [Rows.uptoBulk]
  | iface t d => simp [Rows.uptoBulk]
  | map entries => simp [Rows.uptoBulk]
  | held h => simp [Rows.uptoBulk]
theorem bulk_length {H : Type} (l : List (DataW H)) : l.length ≤ Rows.uptoBulkAll l := by
  induction l with
  | nil => simp [Rows.uptoBulkAll]
  | cons x r ih => have := bulk_one x; simp only [Rows.uptoBulkAll, List.length_cons]; omega
theorem bulk_rows {H : Type} (R : List Nat) (f : Nat → List Int) (g : Nat → DataW H) (h : ∀ r ∈ R, (f r).length + 1 ≤ Rows.uptoBulk (g r)) : (R.map f).flatten.length + R.length ≤ Rows.uptoBulkAll (R.map g) := by
  induction R with
  | nil => simp [Rows.uptoBulkAll]
  | cons x R ih =>
    have h1 := h x (by simp)
    have h2 := ih (fun r hr => h r (by simp [hr]))
    rw [List.map_cons, List.map_cons, List.flatten_cons, List.length_append, List.length_cons]
    simp only [Rows.uptoBulkAll]
    omega
theorem bulk_slice {H : Type} (elems spare : List (DataW H)) : Rows.uptoBulkAll elems + 1 ≤ Rows.uptoBulk (.slice elems spare) := by
  simp only [Rows.uptoBulk]; omega
theorem bulk_row {H : Type} (k : IntKind) (A : Option Addr) (L : Nat) (Z : List Int) (h : A = none → L = 0) : (Z.take L).length + 1 ≤ Rows.uptoBulk (Deep.intRow (H := H) k A L Z) := by
  unfold Deep.intRow
  cases A with
  | none => rw [h rfl]; simp [Rows.uptoBulk]
  | some a =>
    have h1 := bulk_slice (lits (H := H) k (Z.take L)) (lits k (Z.drop L))
    have h2 := bulk_length (lits (H := H) k (Z.take L))
    rw [show (lits (H := H) k (Z.take L)).length = (Z.take L).length by simp [lits]] at h2
    simp only at h1 ⊢
    omega
theorem parts_open {H : Type} {enc : TypeId × Value → H} {P : Program} {w : World} {base : Nat} {held : Bool} {t e q : TypeId} {a : Option Addr} {n c : Nat} {d : DataW H} {p : List MemPlace}
    (ht : P.underlying t = some (.slice e)) (he : P.underlying e = some (.slice q)) (hq : P.underlying q = some (.int .u8)) (ce : P.cellsOf e = 1) (cq : P.cellsOf q = 1)
    (h : DataW.Trod enc P w base (fun _ => true) held t (.slice a n c) d p) : ∃ ls, PartsAt w a n ls ∧ ls.flatten.length + n ≤ Rows.uptoBulk d := by
  obtain ⟨fuel, hf⟩ := h
  rcases Deep.open_int_rows ht he hq ce cq hf with ⟨hcs, hx⟩ | ⟨x, l, c', A, L, C, Z, hcs, _, hl, _, hx, hall⟩
  · simp [Value.cells] at hcs
    obtain ⟨rfl, rfl, rfl⟩ := hcs
    exact ⟨[], PartsAt.none _, by simp⟩
  · simp [Value.cells] at hcs
    obtain ⟨rfl, rfl, rfl⟩ := hcs
    simp only [Prod.mk.injEq] at hx
    obtain ⟨rfl, _⟩ := hx
    refine ⟨(List.range n).map fun r => (Z r).take (L r), ⟨by simp, fun i hi => ?_⟩, ?_⟩
    · obtain ⟨h1, h2, h3, h4, h5, h6, h7⟩ := hall i (by omega)
      obtain ⟨b, o, sp⟩ := x
      have hsp : sp = none := by simpa [Addr.add] using World.cell?_spot (hall 0 (by omega)).1
      subst hsp
      refine ⟨b, o, A i, L i, C i, rfl, by rw [Addr.add_lit] at h1; exact h1, ?_⟩
      rw [show ((List.range n).map fun r => (Z r).take (L r)).getD i [] = (Z i).take (L i) by simp [List.getD, hi]]
      cases hA : A i with
      | none =>
        have hc0 := h6 hA
        rw [show L i = 0 by omega, hc0, List.take_zero]
        exact RdAt.nil _ _
      | some a' =>
        obtain ⟨_, hcell⟩ := h7 a' hA
        exact RdAt.of_row h2 h3 h4 (fun j hj => hcell j (by omega)) h5
    · have hb := bulk_rows (H := H) (List.range n) (fun r => (Z r).take (L r)) (fun r => Deep.intRow .u8 (A r) (L r) (Z r)) (fun r hr => bulk_row _ _ _ _ (fun hA => by
        obtain ⟨_, h2, _, _, _, h6, _⟩ := hall r (by have := List.mem_range.1 hr; omega)
        have := h6 hA
        omega))
      rw [List.length_range] at hb
      have hs := bulk_slice ((List.range n).map fun r => Deep.intRow (H := H) .u8 (A r) (L r) (Z r)) ((List.range (c - n)).map fun j => Deep.intRow .u8 (A (n + j)) (L (n + j)) (Z (n + j)))
      omega
theorem bulk_part {H : Type} {d : DataW H} {l : List (DataW H)} (h : d ∈ l) : Rows.uptoBulk d ≤ Rows.uptoBulkAll l := by
  induction l with
  | nil => cases h
  | cons x r ih =>
    simp only [Rows.uptoBulkAll]
    cases List.mem_cons.1 h with
    | inl e => subst e; omega
    | inr e => have := ih e; omega
theorem bulk_bound {H : Type} {l : List (DataW H)} (hk : Rows.uptoSmall H l = true) : Rows.uptoBulkAll l ≤ 1048576 := of_decide_eq_true hk
end Go.Proofs.Ytlhpdkapddnbcaa

namespace Go.Proofs.Ytlhpdkapddnbcaa
open Go.RowKit
theorem bgT_bd (n size : Nat) : 0 ≤ bgT n size ∧ bgT n size ≤ 4611686018427387908 ∧ bgT n size % 2 = 0 := fmT_bd _ _ _
theorem fmJ_ok {lo n size : Nat} {t : Int} (h4 : 4 ≤ n) (hn : n ≤ 65536) (hlo : lo ≤ 65536) (hs : 64 ≤ size) (hs2 : size ≤ 4096) (h0 : 0 ≤ t) (h1 : t ≤ 4611686018427387908) : JOk (fmJ lo n size t) :=
  ⟨h4, hn, hlo, hs, hs2, hdI_wf (by omega) (by omega), by show (0 : Int) < (n : Int) - 2; omega, Nat.zero_le _, fun k hk => by cases hk⟩
theorem fmJ_dok {st : Dk} {lo n size : Nat} {t : Int} (hs : st.size = size) (hn : lo + n ≤ st.kept.length) : DOk (fmS st lo size t) (fmJ lo n size t) :=
  ⟨hs, by show lo + n ≤ (settleK _ _ _ _).length; rw [settleK_len]; exact hn⟩
/-- What a fresh journal's room is. -/
theorem fmJ_room {lo n size : Nat} {t : Int} (h4 : 4 ≤ n) : roomN (fmJ lo n size t) = min (((n - 2) * (size - 32) : Nat) : Int) 1048576 := by
  unfold roomN
  rw [if_neg (by show ¬ 0 = n - 2; omega)]
  rfl
/-- The sectors do not turn by a cut, where nothing is pending. -/
theorem secB_cut {st : Dk} {keep : List Bool} (hp : st.pend = []) (s : Nat) : secB { cutS st keep with off := false } s = secB st s := by
  rw [secB_kept hp, secB_kept (st := { cutS st keep with off := false }) rfl]
  show ((settleK _ 0 st.pend st.kept)[s]?).getD [] = _
  rw [hp]
  rfl
/-- Begun, one record appended: it holds that record. -/
theorem fm_app {st : Dk} {lo n size : Nat} {t : Int} {l : List Int} (hoff : st.off = false) (hp : st.pend = []) (harm : st.armed = 0) (hsz : st.size = size) (h4 : 4 ≤ n) (hn65 : n ≤ 65536) (hlo : lo ≤ 65536) (hn : lo + n ≤ st.kept.length) (hs : 64 ≤ size) (hs2 : size ≤ 4096) (h0 : 0 ≤ t) (h1 : t ≤ 4611686018427387908) (h2 : t % 2 = 0) (hf : ¬ roomN (fmJ lo n size t) < l.length) :
    HoldsK (secB (apS (fmS st lo size t) (fmJ lo n size t) l).st) lo n size (hdI (t + 1)).nx.up [l] := by
  have harm2 : (fmS st lo size t).armed = 0 := by
    show (if (if st.armed = 0 then (0 : Int) else st.armed - 1) = 0 then (0 : Int) else _) = 0
    rw [if_pos harm, if_pos rfl]
  exact ap_holds (J := fmJ lo n size t) (L := []) (fmJ_ok h4 hn65 hlo hs hs2 h0 h1) (fmJ_dok hsz hn) hoff rfl (.inl harm2) hf (fm_holds hp h4 hn h0 h1 h2) rfl (by show (1 : Int) < _; decide) (by show t + 1 < _; omega)
end Go.Proofs.Ytlhpdkapddnbcaa

namespace Go.Proofs.Ytlhpdkapddnbcaa
open Go.RowKit
def kwT : Int := fmT 6 (fun k => secB (dk0 10 64) (2 + k)) 2
def kwA : Ap := apS (fmS (dk0 10 64) 2 64 kwT) (fmJ 2 6 64 kwT) [97, 98, 99]
def kwS : Dk := { cutS kwA.st [] with off := false }
theorem kwT_bd : 0 ≤ kwT ∧ kwT ≤ 4611686018427387908 ∧ kwT % 2 = 0 := fmT_bd _ _ _
theorem kw_room : ¬ roomN (fmJ 2 6 64 kwT) < (3 : Nat) := by rw [fmJ_room (by omega)]; decide
theorem kw_holds : HoldsK (secB kwA.st) 2 6 64 (hdI (kwT + 1)).nx.up [[97, 98, 99]] := fm_app (st := dk0 10 64) (l := [97, 98, 99]) rfl rfl rfl rfl (by omega) (by omega) (by omega) (by decide) (by omega) (by omega) kwT_bd.1 kwT_bd.2.1 kwT_bd.2.2 kw_room
theorem kw_whole : kwA.e = 0 ∧ kwA.st.off = false ∧ kwA.st.pend = [] ∧ kwA.st.size = 64 ∧ kwA.st.reads = 2 ∧ kwA.st.kept.length = 10 := by
  obtain ⟨e1, _, e3, e4, e5, e6, _, _, e9⟩ := ap_whole (st := fmS (dk0 10 64) 2 64 kwT) (J := fmJ 2 6 64 kwT) (l := [97, 98, 99]) rfl rfl (.inl rfl) kw_room
  refine ⟨e1, e3, e4, e5, e6, ?_⟩
  show (apS _ _ _).st.kept.length = 10
  rw [e9, List.length_set, setAll_len]
  show (settleK _ _ _ _).length = 10
  rw [settleK_len]
  show (List.replicate 10 _).length = 10
  rw [List.length_replicate]
theorem kw_open : opR (secB kwS) 2 6 64 = some ((hdI (kwT + 1)).nx.up, [[97, 98, 99]]) := by
  have h : secB kwS = secB kwA.st := funext fun s => secB_cut kw_whole.2.2.1 s
  rw [h]
  exact opR_holds kw_holds (by omega) (by omega) (by omega)
end Go.Proofs.Ytlhpdkapddnbcaa

namespace Go.Proofs.Ytlhpdkapddnbcaa
open Go.RowKit
section
variable {P : Program}
theorem run_mark {w : World} {t e : TypeId} {C : Array Value} {q n c : Nat} (ht : P.underlying t = some (.slice e)) (he : P.underlying e = some (.int .u8)) (row : w.heap[q]? = some (.cells C e (0, 0))) :
    ∃ w', (convert t t (.slice (some ⟨q, 0, none⟩) n c)).run P w = .ok (.slice (some ⟨q, 0, none⟩) n c) w' ∧ w'.heap[q]? = some (.cells C e (C.size, C.size + 1)) ∧ w.grownBy w' (some q) := by
  have hsh : w.shape? q = some (e, C.size) := by unfold World.shape?; rw [row]
  have hq : q < w.heap.size := (Array.getElem?_eq_some_iff.1 row).1
  have hz : w.heap[q] = .cells C e (0, 0) := (Array.getElem?_eq_some_iff.1 row).2
  refine ⟨w.freeze ⟨q, C.size, none⟩ 1, ?_, ?_, ?_⟩
  · simp [convert, run_underlying ht, run_underlying he, markStringish, hsh]
  · unfold World.freeze
    rw [if_neg (by decide)]
    show (w.heap.modify q _)[q]? = _
    rw [Array.getElem?_modify, if_pos rfl, row]
    rfl
  · unfold World.freeze
    rw [if_neg (by decide)]
    exact ⟨rfl, rfl, rfl, by simp, fun k _ hk => by
      show (w.heap.modify q _)[k]? = _
      rw [Array.getElem?_modify, if_neg (fun e => hk (by rw [e]))]⟩
theorem rd_row {w : World} {q : Nat} {l : List Int} {e : TypeId} {fr : Nat × Nat} (row : w.heap[q]? = some (.cells (l.map (Value.int .u8)).toArray e fr)) (hl : l.length ≤ 1000) (hw : ∀ x ∈ l, (Lit.int .u8 x).wf = true) : RdAt .u8 w (some ⟨q, 0, none⟩) l.length l.length l :=
  ⟨rfl, Nat.le_refl _, by unfold maxLen; omega, fun i hi => ⟨_, _, rfl, by rw [cell_of_row w _ _ _ _ _ row, Nat.zero_add, List.getElem?_toArray, List.getElem?_map, List.getElem?_eq_getElem hi, nth_eq hi]; rfl⟩, hw, fun h => by cases h⟩
end
section
variable {P : Program} {ds : List Deferred} {t : Array Value} {K : Act → World → Prop} {Q : Exit → Act → World → Prop} {o : Oper}
theorem wp_mark {T e : TypeId} (d : Tmp) (hd : o.dst = some d) (hs : P.underlying T = some (.slice e)) (he : P.underlying e = some (.int .u8)) (x : Operand) (ho : o.op = .convert T T x)
    {w : World} {C : Array Value} {q n c : Nat} (hx : (Act.mk t ds).eval x = .slice (some ⟨q, 0, none⟩) n c) (row : w.heap[q]? = some (.cells C e (0, 0)))
    (h : ∀ w', w'.heap[q]? = some (.cells C e (C.size, C.size + 1)) → w.grownBy w' (some q) → K ⟨t.setIfInBounds d (.slice (some ⟨q, 0, none⟩) n c), ds⟩ w') : Oper.wp P o ⟨t, ds⟩ w K Q := by
  obtain ⟨w', hr, h1, h2⟩ := run_mark (P := P) (n := n) (c := c) hs he row
  refine wp_of_run d hd ?_ (h w' h1 h2)
  unfold execOp
  simp only [ho, hx]
  simp [hr, Result.andThen]
end
section
variable {P : Program} {k : IntKind} {T e bytes : Nat} {ops : Array Oper} {rest : List Oper} {o : Oper} {a : Act} {Q : Exit → Act → World → Prop}
/-- append(s, x) where s is full: the result is a row of the call's own. -/
theorem run_app_full (hT : P.underlying T = some (.slice e)) (hI : elemInfo P e k bytes) (hby : bytes ≤ 8) (ty : TypeId) (w : World) (a0 : Option Addr) (n : Nat) (l : List Int) (hrd : RdAt k w a0 n n l)
    (q : Int) (hq : (Lit.int k q).wf = true) (hlen : l.length ≤ 1000000) :
    ∃ v' w', (Builtin.append_ #[T, T] ty #[.slice a0 n n, .slice (some ⟨w.heap.size, 0, none⟩) 1 1]).run P (w.alloc (.cells #[.int k q] e)) = .ok v' w' ∧ Owns k e w' w.heap.size v' (l ++ [q]) ∧ Below w.heap.size w w' := by
  have hl := hrd.len
  obtain ⟨i, hi, hz0, hz1, hz2⟩ := info_parts hI
  have hwf : ∀ z ∈ l ++ [q], (Lit.int k z).wf = true := by
    intro z hz'
    rcases List.mem_append.1 hz' with h | h
    · exact hrd.wf z h
    · rw [List.mem_singleton.1 h]; exact hq
  cases a0 with
  | none =>
    obtain rfl : n = 0 := hrd.void rfl
    obtain rfl : l = [] := List.eq_nil_of_length_eq_zero hl
    obtain ⟨v', w', hr, h1, h2⟩ := run_app_one (P := P) hT hI hby ty w w.heap.size (.slice none 0 0) [] (Owns.nil _ _ _ _) q hq (by simp) (Nat.le_refl _)
    exact ⟨v', w', hr, h1, h2.fromNone⟩
  | some ad =>
    have hnew : ∀ j u, ([Value.int k q] : List Value)[j]? = some u → (w.alloc (.cells #[.int k q] e)).cell? ((⟨w.heap.size, 0, none⟩ : Addr).add j) = some u := by
      intro j u hu
      cases j with
      | zero => simp at hu; subst hu; rw [Addr.add_lit]; simp
      | succ j => simp at hu
    have hold : ∀ j u, (l.map (Value.int k))[j]? = some u → (w.alloc (.cells #[.int k q] e)).cell? (ad.add j) = some u := by
      intro j u hu
      have hj : j < n := by have := (List.getElem?_eq_some_iff.1 hu).1; simpa [hl] using this
      obtain ⟨b, o', e', hc⟩ := (hrd.alloc (.cells #[.int k q] e)).cell j hj
      injection e' with e'
      subst e'
      rw [Addr.add_lit]
      rw [List.getElem?_map, List.getElem?_eq_getElem (by omega)] at hu
      rw [nth_eq (by omega)] at hc
      exact hc.trans hu
    have hbb : (n + 1) * bytes ≤ (n + 1) * 8 := Nat.mul_le_mul_left _ hby
    have hr := run_append_grow (P := P) (w.alloc (.cells #[.int k q] e)) T ty e i (.int k 0) hT hi hz0 ad n n (l.map (Value.int k)) (by rw [List.length_map, hz1, hl, Nat.mul_one]) hold ⟨w.heap.size, 0, none⟩ 1 1 [.int k q] (by rw [hz1]; rfl) hnew (by omega) (by omega) (growslice_fits (by omega) (by rw [hz2]; omega))
    have hge := grownCap_ge (w.alloc (.cells #[.int k q] e)) (n + 1) n e
    have hcm : grownCap (w.alloc (.cells #[.int k q] e)) (n + 1) n e ≤ maxLen := grownCap_le_maxLen _ (n + 1) n e (by unfold maxLen; omega)
    refine ⟨_, _, hr, ⟨hwf, .inr ⟨by simp, .inr ⟨_, _, _, by rw [List.length_append, hl]; rfl, by simp, heap_alloc_new (w.alloc (.cells #[.int k q] e)).drew _, by rw [List.length_append, hl]; exact hge, hcm, ?_, ?_⟩⟩⟩, ?_⟩
    · rw [Array.size_append, Array.size_append, size_zeroCells, List.size_toArray, List.length_map, hl]
      simp [Value.cells]
      omega
    · rw [Array.toList_append, Array.toList_append, List.map_append, Nat.mul_one]
      exact List.take_left' (by simp)
    · have h1 : Below w.heap.size w (w.alloc (.cells #[.int k q] e)).drew := ⟨rfl, rfl, rfl, by simp, fun j hj => Below.heap_alloc w _ j hj⟩
      exact h1.alloc h1.size _
theorem app_one_full (hT : P.underlying T = some (.slice e)) (hI : elemInfo P e k bytes) (hby : bytes ≤ 8) (hg : o.guard = none) (s x : Operand)
    (ho : o.op = .call { callee := .builtin .append, args := #[s, x], argTypes := #[T, T] }) (w : World) (a0 : Option Addr) (n : Nat) (l : List Int) (hs : a.eval s = .slice a0 n n) (hrd : RdAt k w a0 n n l)
    (q : Int) (hx : a.eval x = .slice (some ⟨w.heap.size, 0, none⟩) 1 1) (hq : (Lit.int k q).wf = true) (hlen : l.length ≤ 1000000)
    (h : ∀ v' w', Owns k e w' w.heap.size v' (l ++ [q]) → Below w.heap.size w w' → wpList P ops Q rest (a.put o.dst v') w') :
    wpList P ops Q (o :: rest) a (w.alloc (.cells #[.int k q] e)) := by
  refine wpList_plain hg fun K hK => ?_
  obtain ⟨v', w', hr, h1, h2⟩ := run_app_full (P := P) hT hI hby o.type w a0 n l hrd q hq hlen
  unfold Oper.wp execOp
  simp only [ho, resolve, invoke, builtin, Sem.run_bind, Sem.run_pure, Result.andThen_ok, List.map_toArray, List.map_cons, List.map_nil, hs, hx, hr]
  exact hK _ _ (h v' w' h1 h2)
end
end Go.Proofs.Ytlhpdkapddnbcaa

namespace Go.Proofs.Ytlhpdkapddnbcaa
open Go.RowKit
set_option linter.unusedSimpArgs false in
set_option linter.unusedVariables false in
set_option maxRecDepth 100000 in
set_option maxHeartbeats 4000000 in
theorem known8 (w0 : World) : Calls Try.prog 9 #[] w0 fun e w' => e = .returned (.bool true) ∧ Below w0.heap.size w0 w' := by
  have HNW := Lib.hid (new_any 10 64 w0 (by decide))
  have HFM : Hid (∀ (Z : Nat → Prop) (d : Nat) (w : World), DkIn w Z d (dk0 10 64) → Calls Try.prog 14 #[.pointer (some ⟨d, 0, none⟩), .int .i64 2, .int .i64 6] w fun e w' => ∃ r, e = .returned (.tuple #[.pointer (some ⟨r, 0, none⟩), .nilIface]) ∧ ∃ Q', RiIn w' Q' r d (fmS (dk0 10 64) 2 64 kwT) (fmJ 2 6 64 kwT) ∧ Tnd Z Q' w w') := fun Z d w h => format_any Z d (dk0 10 64) 2 6 w h (by omega) (by show 2 + 6 ≤ (List.replicate 10 _).length; rw [List.length_replicate]; omega) rfl rfl rfl (by show (0 : Int) + 2 ≤ _; omega) (by show (0 : Int) + 2 ≤ _; omega)
  have HAP : Hid (∀ (Q : Nat → Prop) (r d b : Nat) (w : World), RiIn w Q r d (fmS (dk0 10 64) 2 64 kwT) (fmJ 2 6 64 kwT) → RdAt .u8 w (some ⟨b, 0, none⟩) 3 3 [97, 98, 99] → ¬ Q b → Calls Try.prog 12 #[.pointer (some ⟨r, 0, none⟩), .slice (some ⟨b, 0, none⟩) 3 3] w fun e w' => e = .returned (.tuple #[.int .u64 1, .int .i64 0]) ∧ ∃ Q', RiIn w' Q' r d kwA.st kwA.J ∧ Tnd Q Q' w w') := fun Q r d b w h1 h2 h3 => by
    refine (append_on Q r d _ _ _ 3 3 [97, 98, 99] w h1 h2 (fun x hx _ => by injection hx with hx; rw [← hx]; exact h3) kw_room rfl rfl (by show (1 : Int) < _; decide) (by have := kwT_bd.2.1; show kwT + 1 < _; omega) (by show (0 : Int) + 1 + 1 + 70000 ≤ _; decide)).mono ?_
    rintro e w' ⟨he, h⟩
    refine ⟨?_, h⟩
    rw [he]
    show ApE (fmJ 2 6 64 kwT).h.next kwA = _
    unfold ApE
    rw [kw_whole.1]
    rfl
  go_enter Try.func9, Try.ntmps9
  go_wp2_with fail
  refine HNW.out.mono ?_
  rintro e w1 ⟨d, Z, rfl, hd1, hz1, hb1⟩
  have D1 := Lib.hid hd1
  have Z1 := Lib.hid hz1
  have B1 := Lib.hid hb1
  clear hd1 hz1 hb1
  go_wp2_with fail
  refine (HFM.out Z d w1 D1.out).mono ?_
  rintro e w2 ⟨r, rfl, Q, hr2, ht2⟩
  have R2 := Lib.hid hr2
  have B2 := Lib.hid (B1.out.trans (ht2.below Z1.out B1.out.size))
  have Q2 := Lib.hid (ht2.base Z1.out B1.out.size)
  clear hr2 ht2
  have hrow := heap_alloc_new w2 (.cells #[.int .u8 97, .int .u8 98, .int .u8 99] 5)
  have hba : Below w2.heap.size w2 (w2.alloc (.cells #[.int .u8 97, .int .u8 98, .int .u8 99] 5)) := (Below.refl _ _).alloc (Nat.le_refl _) _
  obtain ⟨w3, hmk, hr9, hg9⟩ := run_mark (P := Try.prog) (t := 36) (n := 3) (c := 3) u8TR Try.underlying5 hrow
  have hbt := hba.trans (show Below w2.heap.size (w2.alloc (.cells #[.int .u8 97, .int .u8 98, .int .u8 99] 5)) w3 from (Below.refl _ _).grown hg9 hba.size (fun g h => by injection h with h; omega))
  have R3 := Lib.hid (R2.out.below hbt)
  have B3 := Lib.hid (B2.out.trans (hbt.mono B2.out.size))
  have HR9 := Lib.hid hr9
  have hq2 : ¬ Q w2.heap.size := fun h => Nat.lt_irrefl _ (R2.out.lt _ h)
  clear hr9 hg9 hrow hba hbt
  go_wp2_with fail
  refine (HAP.out Q r d w2.heap.size w3 R3.out (rd_row (l := [97, 98, 99]) HR9.out (by decide) (by decide)) hq2).mono ?_
  rintro e w4 ⟨rfl, Q4, hr4, ht4⟩
  have B4 := Lib.hid (B3.out.trans (ht4.below Q2.out B3.out.size))
  have Q4_ := Lib.hid (ht4.base Q2.out B3.out.size)
  obtain ⟨⟨Z4, sv4, hd4, _, _, hz4, _⟩, _⟩ := hr4
  have D4 := Lib.hid hd4
  have Z4_ : Hid (∀ k, Z4 k → w0.heap.size ≤ k) := fun k hk => Q4_.out k (hz4 k hk)
  clear hd4 hz4 ht4 hmk
  go_wp2_with fail
  refine (cut_any Z4 d kwA.st w4 D4.out none 0 0 [] ⟨rfl, Nat.le_refl _, by unfold maxLen; omega, fun i hi => by omega, fun _ => rfl⟩ (fun x hx => by cases hx)).mono ?_
  rintro e w5 ⟨rfl, hd5, ht5⟩
  have D5 := Lib.hid hd5
  have B5 := Lib.hid (B4.out.trans (ht5.below Z4_.out B4.out.size))
  clear hd5 ht5
  go_wp2_with fail
  refine (on_any Z4 d _ w5 D5.out).mono ?_
  rintro e w6 ⟨rfl, hd6, ht6⟩
  have D6 : Hid (DkIn w6 Z4 d kwS) := hd6
  have B6 := Lib.hid (B5.out.trans (ht6.below Z4_.out B5.out.size))
  clear hd6 ht6
  have HOP := Lib.hid (ropen_any Z4 d kwS 2 6 w6 D6.out (by omega) (by show 2 + 6 ≤ (settleK _ _ _ _).length; rw [settleK_len, kw_whole.2.2.2.2.2]; omega) rfl (by show kwA.st.reads + _ ≤ _; rw [kw_whole.2.2.2.2.1]; decide))
  go_wp2_with fail
  refine HOP.out.mono ?_
  rintro e w7 ⟨R7, hR7a, hR7b, hpost⟩
  rw [show kwS.size = 64 from kw_whole.2.2.2.1, kw_open] at hpost
  obtain ⟨r7, Q7, v7, vs7, rfl, hr7, hW7, ht7⟩ := hpost
  have B7 := Lib.hid (B6.out.trans (ht7.below Z4_.out B6.out.size))
  have Q7_ := Lib.hid (ht7.base Z4_.out B6.out.size)
  obtain ⟨⟨Z8, sv8, hd8, _⟩, _⟩ := hr7
  have W7 := Lib.hid hW7
  have HNO := Lib.hid (ropen_no Z8 d (kwS.rd R7) 8 6 w7 hd8 (by omega) (by show 6 ≤ (settleK _ _ _ _).length; rw [settleK_len, kw_whole.2.2.2.2.2]; omega) (by show (settleK _ _ _ _).length < 8 + 6; rw [settleK_len, kw_whole.2.2.2.2.2]; omega) (by omega))
  clear hW7 ht7 hd8
  go_wp2_with fail
  refine HNO.out.mono ?_
  rintro e w8 ⟨⟨v8, rfl, hf8⟩, hb8⟩
  have W8 := Lib.hid (W7.out.below hb8)
  have B8 := Lib.hid (B7.out.trans (hb8.mono B7.out.size))
  obtain ⟨g8, rfl, hc8⟩ := hf8
  obtain ⟨a7, c7, rfl⟩ := W8.out.shape
  have hvl : vs7.length = 1 := W8.out.len
  obtain ⟨a9, n9, c9, hv9, hr9, _⟩ := W8.out.each 0 [97, 98, 99] rfl
  have hn9 : n9 = 3 := hr9.len.symm
  subst hn9
  obtain ⟨g9, rfl, hcell⟩ : ∃ g, a7 = some ⟨g, 0, none⟩ ∧ w8.cell? ⟨g, 0, none⟩ = some (.slice a9 3 c9) := by
    have ho := W8.out.own
    rcases ho.2 with ⟨_, h⟩ | ⟨g, cap, cur, hv, _⟩
    · omega
    · injection hv with q1 q2 q3
      subst q1 q3
      exact ⟨g, rfl, by rw [ho.cellAt 0 (by omega)]; exact hv9⟩
  have hcv := conv_rd (P := Try.prog) (src := 36) (dst := 9) u8TR Try.underlying5 Try.underlying9 hr9
  rw [show strOfNums [97, 98, 99] = ⟨#[97, 98, 99]⟩ from by decide +kernel] at hcv
  have HIS := Lib.hid (is_fail g8 1 w8 hc8)
  clear hb8
  go_wp2_with (first | (go_at_call 23; refine HIS.out.mono ?_; rintro e w9 ⟨rfl, rfl⟩))
  go_ret
  exact ⟨rfl, B8.out⟩
end Go.Proofs.Ytlhpdkapddnbcaa

namespace Go.Proofs.Ytlhpdkapddnbcaa
open Go.RowKit
set_option linter.unusedSimpArgs false in
set_option linter.unusedVariables false in
set_option maxRecDepth 100000 in
set_option maxHeartbeats 8000000 in
theorem append_full2 (Q : Nat → Prop) (r d : Nat) (st : Dk) (J : Jr) (a : Option Addr) (n c : Nat) (w0 : World) (hR : RiIn w0 Q r d st J) (hf : roomN J < n) :
    Calls Try.prog 12 #[.pointer (some ⟨r, 0, none⟩), .slice a n c] w0 fun e w' => e = .returned (.tuple #[.int .u64 0, .int .i64 10]) ∧ w0 = w' := by
  obtain ⟨⟨Z, sv, hd, hr, ho, hz, hq, hn, hg⟩, ok, dok, lt⟩ := hR
  have HRM := Lib.hid (rroom_any r d sv J w0 hr ok ho)
  obtain ⟨M, hM⟩ : ∃ M, roomN J = M := ⟨_, rfl⟩
  rw [hM] at HRM hf
  have d1 : decide (M < (n : Int)) = true := decide_eq_true hf
  clear hd hr ho hz hq hn hg ok dok lt hf
  go_enter Try.func12, Try.ntmps12
  go_wp2_with fail
  refine HRM.out.mono ?_
  rintro e w1 ⟨rfl, rfl⟩
  go_wp2_with fail
  go_ret2
  exact ⟨rfl, rfl⟩
/-- Its disk. -/
structure EaD (w0 w : World) (Z : Nat → Prop) (d n size : Nat) (st : Dk) (h : Hd) (L : List (List Int)) : Prop where
  di : DkIn w Z d st
  base : ∀ k, Z k → w0.heap.size ≤ k
  below : Below w0.heap.size w0 w
  pend : st.pend = []
  sz : st.size = size
  len : st.kept.length = n
  rd : st.reads ≤ 2
  first : h.first = 1
  H : HoldsK (secB st) 0 n size h L
structure EaIn (w0 w : World) (Q : Nat → Prop) (d r n size i : Nat) (st : Dk) (J : Jr) (L : List (List Int)) : Prop where
  ri : RiIn w Q r d st J
  base : ∀ k, Q k → w0.heap.size ≤ k
  below : Below w0.heap.size w0 w
  jlo : J.lo = 0
  jn : J.n = n
  jsz : J.size = size
  off : st.off = false
  pend : st.pend = []
  sz : st.size = size
  len : st.kept.length = n
  rd : st.reads ≤ 2
  first : J.h.first = 1
  nx : J.h.next ≤ 1 + i
  tn : J.h.turn ≤ 4611686018427387909 + i
  wr : st.writes ≤ 2 + 70000 * i
  H : HoldsK (secB st) 0 n size J.h L
  ks : J.ks = ksOf size L
section
variable {w0 w w' : World} {Q Z : Nat → Prop} {d r n size i : Nat} {st : Dk} {J : Jr} {h : Hd} {L : List (List Int)}
theorem EaIn.more (p : EaIn w0 w Q d r n size i st J L) (b : Below w.heap.size w w') : EaIn w0 w' Q d r n size i st J L := ⟨p.ri.below b, p.base, p.below.trans (b.mono p.below.size), p.jlo, p.jn, p.jsz, p.off, p.pend, p.sz, p.len, p.rd, p.first, p.nx, p.tn, p.wr, p.H, p.ks⟩
set_option maxRecDepth 100000 in
theorem EaIn.room (p : EaIn w0 w Q d r n size i st J L) : Calls Try.prog 11 #[.pointer (some ⟨r, 0, none⟩)] w fun e w' => e = .returned (.int .i64 (roomN J)) ∧ w = w' := by
  obtain ⟨⟨Z, sv, hd, hr, ho, _⟩, ok, _⟩ := p.ri
  exact rroom_any r d sv J w hr ok ho
theorem EaIn.disk (p : EaIn w0 w Q d r n size i st J L) : ∃ Z, EaD w0 w Z d n size st J.h L := by
  obtain ⟨⟨Z, sv, hd, hr, ho, hz, _⟩, _⟩ := p.ri
  exact ⟨Z, hd, fun k hk => p.base k (hz k hk), p.below, p.pend, p.sz, p.len, p.rd, p.first, p.H⟩
set_option maxRecDepth 100000 in
theorem EaIn.off_ (p : EaIn w0 w Q d r n size i st J L) : Calls Try.prog 16 #[.pointer (some ⟨d, 0, none⟩)] w fun e w' => e = .returned (.bool false) ∧ w = w' := by
  obtain ⟨⟨Z, sv, hd, _⟩, _⟩ := p.ri
  have := off_any Z d st w hd
  rw [p.off] at this
  exact this
set_option maxRecDepth 100000 in
/-- One record more: whole; or cut. -/
theorem EaIn.append (p : EaIn w0 w Q d r n size i st J L) (hi : i ≤ 1000) (a : Option Addr) (m c : Nat) (l : List Int) (hl : RdAt .u8 w a m c l) (hq : ∀ x, a = some x → 0 < m → ¬ Q x.block) (hf : ¬ roomN J < m) :
    Calls Try.prog 12 #[.pointer (some ⟨r, 0, none⟩), .slice a m c] w fun e w' =>
      ((st.armed = 0 ∨ ((ndN J.size l.length : Nat) : Int) + 1 < st.armed) → e = .returned (.tuple #[.int .u64 J.h.next, .int .i64 0]) ∧ ∃ Q' st' J', EaIn w0 w' Q' d r n size (i + 1) st' J' (L ++ [l]) ∧ (st.armed = 0 → st'.armed = 0)) ∧
      (¬ (st.armed = 0 ∨ ((ndN J.size l.length : Nat) : Int) + 1 < st.armed) → e = .returned (.tuple #[.int .u64 0, .int .i64 8]) ∧ ∃ Z st', EaD w0 w' Z d n size st' J.h L ∧ st'.off = true) := by
  refine (append_on Q r d st J a m c l w p.ri hl hq hf p.off p.pend (by have := p.nx; omega) (by have := p.tn; omega) (by have := p.wr; omega)).mono ?_
  rintro e w' ⟨rfl, Q', hr', ht'⟩
  have hlen := hl.len
  have hfl : ¬ roomN J < l.length := by rw [hlen]; exact hf
  obtain ⟨hsum, hm2⟩ := nd_room p.ri.ok hf
  have hnd : ndN J.size m ≤ 65536 := by have := p.ri.ok.n1; omega
  have harm : 0 ≤ st.armed := by
    obtain ⟨⟨Z, sv, hd, _⟩, _⟩ := p.ri
    exact hd.okR.armed.1
  have hH : HoldsK (secB st) J.lo J.n J.size J.h L := by rw [p.jlo, p.jn, p.jsz]; exact p.H
  have hks : J.ks = ksOf J.size L := by rw [p.jsz]; exact p.ks
  have hb := p.below.trans (ht'.below p.base p.below.size)
  refine ⟨fun hw => ?_, fun hw => ?_⟩
  · obtain ⟨e1, eJ, e3, e4, e5, e6, e7, e8, e9⟩ := ap_whole p.off p.pend hw hfl
    have hhold := ap_holds p.ri.ok p.ri.dok p.off p.pend hw hfl hH hks (by have := p.nx; omega) (by have := p.tn; omega)
    have hJ1 : (apS st J l).J.h = J.h.nx.up := by rw [eJ]
    refine ⟨by unfold ApE; rw [e1]; rfl, Q', _, _, ⟨hr', ht'.base p.base p.below.size, hb, by rw [eJ]; exact p.jlo, by rw [eJ]; exact p.jn, by rw [eJ]; exact p.jsz, e3, e4, e5.trans p.sz, by rw [e9, List.length_set, setAll_len]; exact p.len, by rw [e6]; exact p.rd, by rw [hJ1]; exact p.first, ?_, ?_, ?_, ?_, ?_⟩, e8⟩
    · rw [hJ1]
      have := p.nx
      show J.h.next + 1 ≤ _
      omega
    · rw [hJ1]
      have := p.tn
      show J.h.turn + 1 ≤ _
      omega
    · have := p.wr
      rw [e7, hlen]
      omega
    · rw [hJ1]
      rw [p.jlo, p.jn, p.jsz] at hhold
      exact hhold
    · rw [eJ]
      show J.ks ++ [ndN J.size l.length] = _
      rw [ksOf_snoc, p.ks, p.jsz]
  · have h1 : 1 ≤ st.armed := by omega
    have h2 : st.armed ≤ ((ndN J.size l.length : Nat) : Int) + 1 := by omega
    obtain ⟨e1, eJ, ec, ew, ek⟩ := ap_cut p.off p.pend h1 h2 hfl
    have hhold := ap_cut_holds p.ri.ok p.off p.pend h1 h2 hfl hH hks
    rw [p.jlo, p.jn, p.jsz] at hhold
    obtain ⟨⟨Z, sv, hd, _, _, hz, _⟩, _⟩ := hr'
    exact ⟨by unfold ApE; rw [e1]; rfl, Z, _, ⟨hd, fun k hk => ht'.base p.base p.below.size k (hz k hk), hb, ec.pend, ec.size.trans p.sz, ec.len.trans p.len, by rw [ec.reads]; exact p.rd, p.first, hhold⟩, ec.off⟩
set_option maxRecDepth 100000 in
theorem EaIn.arm (p : EaIn w0 w Q d r n size i st J L) (z : Int) (a : Option Addr) (m c : Nat) (kl : List Bool) (hk : RdB w a m c kl) (hm : m ≤ 1000000000) (h1 : -9223372036854775808 ≤ z) (h2 : z ≤ 9223372036854775807) :
    Calls Try.prog 15 #[.pointer (some ⟨d, 0, none⟩), .int .i64 z, .slice a m c] w fun e w' => e = .returned (.tuple #[]) ∧ ∃ Q', EaIn w0 w' Q' d r n size i (armS st z kl) J L := by
  obtain ⟨⟨Z, sv, hd, hr, ho, hz, hq, hn, hg⟩, ok, dok, lt⟩ := p.ri
  refine (arm_any Z d st z a m c kl w hd hk hm h1 h2).mono ?_
  rintro e w' ⟨rfl, Z', hd', ht'⟩
  obtain ⟨Q', hr', tq⟩ := RiIn.disk hr ho hz hq hn hg ok dok (st' := armS st z kl) ⟨rfl, rfl⟩ hd' ht'
  exact ⟨rfl, Q', hr', tq.base p.base p.below.size, p.below.trans (tq.below p.base p.below.size), p.jlo, p.jn, p.jsz, p.off, p.pend, p.sz, p.len, p.rd, p.first, p.nx, p.tn, p.wr, p.H, p.ks⟩
set_option maxRecDepth 100000 in
theorem EaD.cut (p : EaD w0 w Z d n size st h L) (a : Option Addr) (m c : Nat) (kl : List Bool) (hr : RdB w a m c kl) (hlo : ∀ x, a = some x → 0 < m → x.block < w.heap.size ∧ ¬ Z x.block) :
    Calls Try.prog 17 #[.pointer (some ⟨d, 0, none⟩), .slice a m c] w fun e w' => e = .returned (.tuple #[]) ∧ EaD w0 w' Z d n size (cutS st kl) h L := by
  refine (cut_any Z d st w p.di a m c kl hr hlo).mono ?_
  rintro e w' ⟨rfl, hd, ht⟩
  obtain ⟨hc, hk, hw⟩ := cut_none (keep := kl) p.pend
  have hsec : secB (cutS st kl) = secB st := funext fun s => by rw [secB_kept hc.pend, secB_kept p.pend, hk]
  exact ⟨rfl, hd, p.base, p.below.trans (ht.below p.base p.below.size), hc.pend, hc.size.trans p.sz, hc.len.trans p.len, by rw [hc.reads]; exact p.rd, p.first, by rw [hsec]; exact p.H⟩
set_option maxRecDepth 100000 in
theorem EaD.on (p : EaD w0 w Z d n size st h L) : Calls Try.prog 18 #[.pointer (some ⟨d, 0, none⟩)] w fun e w' => e = .returned (.tuple #[]) ∧ EaD w0 w' Z d n size { st with off := false } h L := by
  refine (on_any Z d st w p.di).mono ?_
  rintro e w' ⟨rfl, hd, ht⟩
  exact ⟨rfl, hd, p.base, p.below.trans (ht.below p.base p.below.size), p.pend, p.sz, p.len, p.rd, p.first, p.H⟩
set_option maxRecDepth 100000 in
theorem EaD.arm (p : EaD w0 w Z d n size st h L) (z : Int) (a : Option Addr) (m c : Nat) (kl : List Bool) (hk : RdB w a m c kl) (hm : m ≤ 1000000000) (h1 : -9223372036854775808 ≤ z) (h2 : z ≤ 9223372036854775807) :
    Calls Try.prog 15 #[.pointer (some ⟨d, 0, none⟩), .int .i64 z, .slice a m c] w fun e w' => e = .returned (.tuple #[]) ∧ ∃ Z', EaD w0 w' Z' d n size (armS st z kl) h L := by
  refine (arm_any Z d st z a m c kl w p.di hk hm h1 h2).mono ?_
  rintro e w' ⟨rfl, Z', hd, ht⟩
  exact ⟨rfl, Z', hd, ht.base p.base p.below.size, p.below.trans (ht.below p.base p.below.size), p.pend, p.sz, p.len, p.rd, p.first, p.H⟩
/-- Opened: the journal's block, the records. -/
structure EaO (w0 w : World) (r : Nat) (a : Option Addr) (m c : Nat) (L : List (List Int)) : Prop where
  below : Below w0.heap.size w0 w
  row : ∃ d sv J, w.heap[r]? = some (rowJ d sv J) ∧ J.h.first = 1 ∧ J.h.next = 1 + L.length
  rows : RowsRd w (fun _ => False) a m c L
theorem EaO.more {a : Option Addr} {m c : Nat} (p : EaO w0 w r a m c L) (b : Below w.heap.size w w') : EaO w0 w' r a m c L := by
  obtain ⟨d, sv, J, h1, h2⟩ := p.row
  exact ⟨p.below.trans (b.mono p.below.size), ⟨d, sv, J, row_keep h1 b, h2⟩, p.rows.below b⟩
set_option maxRecDepth 100000 in
theorem EaO.first {a : Option Addr} {m c : Nat} (p : EaO w0 w r a m c L) : Calls Try.prog 20 #[.pointer (some ⟨r, 0, none⟩)] w fun e w' => e = .returned (.int .u64 1) ∧ w = w' := by
  obtain ⟨d, sv, J, h1, h2, h3⟩ := p.row
  have := first_any r d sv J w h1
  rw [h2] at this
  exact this
set_option maxRecDepth 100000 in
theorem EaO.next {a : Option Addr} {m c : Nat} (p : EaO w0 w r a m c L) (hm : L.length = m) : Calls Try.prog 21 #[.pointer (some ⟨r, 0, none⟩)] w fun e w' => e = .returned (.int .u64 (1 + m)) ∧ w = w' := by
  obtain ⟨d, sv, J, h1, h2, h3⟩ := p.row
  have := next_any r d sv J w h1
  rw [h3, hm] at this
  exact this
set_option maxRecDepth 100000 in
theorem EaD.opn (h4 : 4 ≤ n) (hn : n ≤ 60) (hs : 64 ≤ size) (p : EaD w0 w Z d n size st h L) (hoff : st.off = false) :
    Calls Try.prog 19 #[.pointer (some ⟨d, 0, none⟩), .int .i64 0, .int .i64 (n : Int)] w fun e w' => ∃ r a m c, e = .returned (.tuple #[.pointer (some ⟨r, 0, none⟩), .slice a m c, .nilIface]) ∧ EaO w0 w' r a m c L := by
  refine (ropen_any Z d st 0 n w p.di h4 (by rw [p.len]; omega) hoff (by have := p.rd; omega)).mono ?_
  rintro e w' ⟨R, hR1, hR2, hpost⟩
  rw [p.sz, opR_holds p.H hs h4 (by omega)] at hpost
  obtain ⟨r, Q', v, vs, rfl, hr, hW, ht⟩ := hpost
  obtain ⟨a, c, rfl⟩ := hW.shape
  obtain ⟨⟨Z2, sv, hd, hrow, _⟩, _⟩ := hr
  exact ⟨r, a, _, c, rfl, p.below.trans (ht.below p.base p.below.size), ⟨_, sv, _, hrow, p.first, by have := p.H.next; have := p.first; show h.next = _; omega⟩, hW.rd.keep (fun _ _ _ => rfl) (fun _ _ _ h1 => h1)⟩
set_option maxRecDepth 100000 in
/-- Begun. -/
theorem ea_begin {w1 : World} {Zd : Nat → Prop} (h4 : 4 ≤ n) (hd : DkIn w1 Zd d (dk0 n size)) (base : ∀ k, Zd k → w0.heap.size ≤ k) (below : Below w0.heap.size w0 w1) :
    Calls Try.prog 14 #[.pointer (some ⟨d, 0, none⟩), .int .i64 0, .int .i64 (n : Int)] w1 fun e w' => ∃ r, e = .returned (.tuple #[.pointer (some ⟨r, 0, none⟩), .nilIface]) ∧ ∃ Q st J, EaIn w0 w' Q d r n size 0 st J [] ∧ st.armed = 0 := by
  have hlen : (dk0 n size).kept.length = n := by show (List.replicate n _).length = _; rw [List.length_replicate]
  refine (format_any Zd d (dk0 n size) 0 n w1 hd h4 (by rw [hlen]; omega) rfl rfl rfl (by show (0 : Int) + 2 ≤ _; omega) (by show (0 : Int) + 2 ≤ _; omega)).mono ?_
  rintro e w' ⟨r, rfl, Q, hr, ht⟩
  obtain ⟨t, ht0⟩ : ∃ t, fmT n (fun k => secB (dk0 n size) (0 + k)) 2 = t := ⟨_, rfl⟩
  have htb := fmT_bd n (fun k => secB (dk0 n size) (0 + k)) 2
  rw [ht0] at htb hr
  obtain ⟨t0, t1, t2⟩ := htb
  refine ⟨r, rfl, Q, _, _, ⟨hr, ht.base base below.size, below.trans (ht.below base below.size), rfl, rfl, rfl, rfl, rfl, rfl, ?_, ?_, rfl, ?_, ?_, ?_, fm_holds (st := dk0 n size) (lo := 0) rfl h4 (by rw [hlen]; omega) t0 t1 t2, rfl⟩, rfl⟩
  · show (settleK _ _ _ _).length = _
    rw [settleK_len]
    exact hlen
  · show (0 : Int) + 2 ≤ 2
    omega
  · show (1 : Int) ≤ 1 + ((0 : Nat) : Int)
    omega
  · show t + 1 ≤ 4611686018427387909 + ((0 : Nat) : Int)
    omega
  · show (0 : Int) + 1 + 1 ≤ 2 + 70000 * ((0 : Nat) : Int)
    omega
end
end Go.Proofs.Ytlhpdkapddnbcaa
