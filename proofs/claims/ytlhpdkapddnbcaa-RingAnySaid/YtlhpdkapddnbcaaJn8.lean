/- ring: read: a state, out of its sector. -/
import Derived.Test.YtlhpdkapddnbcaaJn0
import Derived.Test.YtlhpdkapddnbcaaJn7
import Derived.Test.YtlhpdkapddnbcaaJn4
namespace Go.Proofs.Ytlhpdkapddnbcaa
open Go.RowKit
theorem DkIn.okR {w : World} {Z : Nat → Prop} {d : Nat} {st : Dk} (h : DkIn w Z d st) : DkOk st := by
  obtain ⟨_, _, _, _, _, _, _, p⟩ := h
  exact p.ok
theorem secB_len {st : Dk} (ok : DkOk st) {s : Nat} (hs : s < st.kept.length) : (secB st s).length = st.size := by
  unfold secB
  cases hl : lastOf st.pend s with
  | none =>
    show ((st.kept[s]?).getD []).length = _
    rw [List.getElem?_eq_getElem hs]
    exact ok.kept _ (List.getElem_mem hs)
  | some i =>
    obtain ⟨k, rfl, hk, b, hb⟩ := lastOf_some hl
    show (((st.pend[(k : Int).toNat]?).map (·.2)).getD []).length = _
    rw [Int.toNat_natCast, hb]
    exact (ok.pend _ (List.mem_of_getElem? hb)).1
theorem rd_in {st : Dk} {s : Nat} (ho : st.off = false) (hs : s < st.kept.length) : rdE st (s : Int) = 0 ∧ rdV st (s : Int) = secB st s ∧ rdS st (s : Int) = { st with reads := st.reads + 1 } := by
  have h1 : rdE st (s : Int) = 0 := by
    unfold rdE inS
    rw [ho, decide_eq_true (show (0 : Int) ≤ (s : Int) by omega), decide_eq_true (show (s : Int) < st.kept.length by omega)]
    rfl
  refine ⟨h1, by unfold rdV; rw [if_pos h1, Int.toNat_natCast], by unfold rdS; rw [if_pos h1]⟩
theorem RiIn.keep {w w' : World} {Q : Nat → Prop} {r d : Nat} {st : Dk} {J : Jr} (h : RiIn w Q r d st J) (hs : ∀ k, Q k → w'.heap[k]? = w.heap[k]?) (hsz : w.heap.size ≤ w'.heap.size) : RiIn w' Q r d st J := by
  obtain ⟨⟨Z, sv, hd, hr, ho, hz, hq, hn, hg⟩, ok, dok, lt⟩ := h
  exact ⟨⟨Z, sv, hd.same (fun x hx => hs x (hz x hx)) hsz, (hs r hq).trans hr, ho.ats (fun g h1 => hs g (hg g h1).1), hz, hq, hn, hg⟩, ok, dok, fun k hk => Nat.lt_of_lt_of_le (lt k hk) hsz⟩
theorem Tnd.at_r {Z : Nat → Prop} {w w1 w2 : World} {b : Nat} (t : Tnd Z Z w w1) (hg : w1.grownBy w2 (some b)) (hb : w.heap.size ≤ b) : Tnd Z Z w w2 :=
  ⟨hg.os.trans t.os, hg.tape.trans t.tape, hg.output.trans t.output, Nat.le_trans t.size hg.size, fun k hk hz => (hg.block k (Nat.lt_of_lt_of_le hk t.size) (fun e => by injection e with e; omega)).trans (t.block k hk hz), t.sub⟩
/-- Several cells of a block stored. -/
def setsR (w : World) (b : Nat) : List (Nat × Value) → World
  | [] => w
  | p :: r => setsR (w.setCell ⟨b, p.1, none⟩ p.2) b r
theorem setsR_row {T : TypeId} {b : Nat} : ∀ (L : List (Nat × Value)) {w : World} {cs : Array Value}, w.heap[b]? = some (.cells cs T (0, 0)) → (setsR w b L).heap[b]? = some (.cells (L.foldl (fun c p => c.setIfInBounds p.1 p.2) cs) T (0, 0))
  | [], _, _, h => h
  | p :: r, w, cs, h => setsR_row r (heap_setCell_same w b p.1 cs T p.2 h)
theorem cell_grownR (w : World) (h i : Nat) (x : Value) : w.grownBy (w.setCell ⟨h, i, none⟩ x) (some h) :=
  ⟨rfl, rfl, rfl, by simp, fun k hk hne => heap_setCell_other w ⟨h, i, none⟩ k x (fun e => hne (by rw [e]))⟩
theorem grown_oneR {w w1 w2 : World} {b : Nat} (h : w.grownBy w1 (some b)) (k : w1.grownBy w2 (some b)) : w.grownBy w2 (some b) :=
  ⟨k.os.trans h.os, k.tape.trans h.tape, k.output.trans h.output, Nat.le_trans h.size k.size, fun i hi hn => (k.block i (Nat.lt_of_lt_of_le hi h.size) hn).trans (h.block i hi hn)⟩
theorem setsR_grown {b : Nat} : ∀ (L : List (Nat × Value)) (w : World), w.grownBy (setsR w b L) (some b)
  | [], _ => World.grownBy.refl _ _
  | p :: r, w => grown_oneR (cell_grownR w b p.1 p.2) (setsR_grown r _)
/-- A call that reads a journal, under way since w0: its result lies in block rb. -/
structure RdW (Q : Nat → Prop) (r d : Nat) (st : Dk) (J : Jr) (w0 w : World) (rb : Nat) : Prop where
  ri : RiIn w Q r d st J
  tnd : Tnd Q Q w0 w
  lo : w0.heap.size ≤ rb
  q : ∀ k, Q k → k < w0.heap.size
  res : w.heap[rb]? = some (.cells #[.int .u64 0, .int .u64 0, .int .u64 0, .int .i64 0] 76 (0, 0))
section
variable {Q : Nat → Prop} {r d : Nat} {st st' : Dk} {J : Jr} {w0 w w' : World} {rb : Nat}
theorem RdW.below (h : RdW Q r d st J w0 w rb) (b : Below w.heap.size w w') : RdW Q r d st J w0 w' rb := ⟨h.ri.below b, h.tnd.below_r b, h.lo, h.q, row_keep h.res b⟩
theorem RdW.drew (h : RdW Q r d st J w0 w rb) : RdW Q r d st J w0 w.drew rb := h.below ⟨rfl, rfl, rfl, Nat.le_refl _, fun _ _ => rfl⟩
theorem RdW.at_ (h : RdW Q r d st J w0 w rb) {b : Nat} (hg : w.grownBy w' (some b)) (hb : w0.heap.size ≤ b) (hne : b ≠ rb) : RdW Q r d st J w0 w' rb :=
  ⟨h.ri.keep (fun k hk => hg.block k (h.ri.lt k hk) (fun e => by injection e with e; have := h.q k hk; omega)) hg.size, h.tnd.at_r hg hb, h.lo, h.q, (hg.block rb (Array.getElem?_eq_some_iff.1 h.res).1 (fun e => hne (by injection e with e; exact e.symm))).trans h.res⟩
theorem RdW.turn (h : RdW Q r d st J w0 w rb) (hr : RiIn w' Q r d st' J) (t : Tnd Q Q w w') : RdW Q r d st' J w0 w' rb :=
  ⟨hr, h.tnd.trans t, h.lo, h.q, (t.block rb (Array.getElem?_eq_some_iff.1 h.res).1 (fun hq => by have := h.q rb hq; have := h.lo; omega)).trans h.res⟩
theorem RdW.fin (h : RdW Q r d st J w0 w rb) (L : List (Nat × Value)) : (setsR w rb L).heap[rb]? = some (.cells (L.foldl (fun c p => c.setIfInBounds p.1 p.2) #[.int .u64 0, .int .u64 0, .int .u64 0, .int .i64 0]) 76 (0, 0)) ∧ RiIn (setsR w rb L) Q r d st J ∧ Tnd Q Q w0 (setsR w rb L) := by
  have hg := setsR_grown (b := rb) L w
  exact ⟨setsR_row L h.res, h.ri.keep (fun k hk => hg.block k (h.ri.lt k hk) (fun e => by injection e with e; have := h.q k hk; have := h.lo; omega)) hg.size, h.tnd.at_r hg h.lo⟩
end
theorem fold4 (x0 x1 x2 x3 y0 y1 y2 y3 : Value) : List.foldl (fun (c : Array Value) (p : Nat × Value) => c.setIfInBounds p.1 p.2) #[x0, x1, x2, x3] [(0, y0), (1, y1), (2, y2), (3, y3)] = #[y0, y1, y2, y3] := rfl
set_option maxRecDepth 100000 in
/-- The disk's Read, of a journal's disk. -/
theorem RiIn.read {w : World} {Q : Nat → Prop} {r d : Nat} {st : Dk} {J : Jr} (h : RiIn w Q r d st J) (s : Nat) (hs : s < J.lo + J.n) (hoff : st.off = false) (hrd : st.reads + 1 ≤ 4611686018427387904) :
    Calls Try.prog 29 #[.pointer (some ⟨d, 0, none⟩), .int .i64 (s : Int)] w fun e w' => ∃ a c, e = .returned (.tuple #[.slice a J.size c, .int .i64 0]) ∧ Owns .u8 5 w' w.heap.size (.slice a J.size c) (secB st s) ∧ RiIn w' Q r d { st with reads := st.reads + 1 } J ∧ Tnd Q Q w w' := by
  obtain ⟨⟨Z, sv, hd, hr, ho, hz, hq, hn, hg⟩, ok, dok, lt⟩ := h
  have hk := dok.n
  have h1 := ok.n1
  have h2 := ok.lo
  obtain ⟨e1, e2, e3⟩ := rd_in (s := s) hoff (by omega)
  refine (read_any Z d st (s : Int) w hd (by omega) (by omega) hrd).mono ?_
  rintro e w' ⟨v, rfl, hv, hd', ht⟩
  rw [e1]
  rw [e2] at hv
  rw [e3] at hd'
  obtain ⟨a, c, rfl⟩ := hv.shapeN J.size ((secB_len hd.okR (by omega)).trans dok.size)
  have hrl := (Array.getElem?_eq_some_iff.1 hr).1
  refine ⟨a, c, rfl, hv, ⟨⟨Z, sv, hd', (ht.block r hrl hn).trans hr, ho.ats (fun g h3 => ht.block g (ho.at_base g h3).2 (hg g h3).2.1), hz, hq, hn, hg⟩, ok, ⟨dok.size, dok.n⟩, fun k hk => Nat.lt_of_lt_of_le (lt k hk) ht.size⟩, ht.os, ht.tape, ht.output, ht.size, fun k hk hq' => ht.block k hk (fun h3 => hq' (hz k h3)), fun k hk => .inl hk⟩
theorem rd_lt {kd : IntKind} {w : World} {g o n c : Nat} {l : List Int} (h : RdAt kd w (some ⟨g, o, none⟩) n c l) (hn : 0 < n) : g < w.heap.size := by
  obtain ⟨b, o', e, hc⟩ := h.cell 0 hn
  injection e with e
  injection e with e1 e2
  subst e1
  exact block_lt_of_cell hc
/-- A state, out of what its sector holds. -/
def hdV (b : List Int) (i : Nat) : Int := getK (b.drop (4 + 8 * i)) 8
def hdF (b : List Int) : Hd := ⟨hdV b 0, hdV b 1, hdV b 2, hdV b 3⟩
def hdK (n : Nat) (b : List Int) (slot : Nat) : Bool := decide (getK b 4 = 1196312914) && decide (hdV b 0 % 2 = slot) && decide (1 ≤ hdV b 1) && decide (hdV b 1 ≤ hdV b 2) && decide (hdV b 3 < (n : Int) - 2)
def hdR (n : Nat) (x : List Int) (slot : Nat) : Option Hd := if openOk x = true then (if hdK n (openL x) slot = true then some (hdF (openL x)) else none) else none
def hdE : Option Hd → Int
  | none => 20
  | some _ => 0
set_option linter.unusedSimpArgs false in
set_option linter.unusedVariables false in
set_option maxRecDepth 100000 in
set_option maxHeartbeats 8000000 in
theorem rread_any (Q : Nat → Prop) (r d : Nat) (st : Dk) (J : Jr) (slot : Nat) (w0 : World) (hR : RiIn w0 Q r d st J) (hoff : st.off = false) (hslot : slot ≤ 1) (hrd : st.reads + 1 ≤ 4611686018427387904) :
    Calls Try.prog 42 #[.pointer (some ⟨r, 0, none⟩), .int .i64 (slot : Int)] w0 fun e w' => e = .returned (.tuple #[((hdR J.n (secB st (J.lo + slot)) slot).getD hd0).val, .int .i64 (hdE (hdR J.n (secB st (J.lo + slot)) slot))]) ∧ RiIn w' Q r d { st with reads := st.reads + 1 } J ∧ Tnd Q Q w0 w' := by
  have hs0 := hR.ok.s0
  have hs1 := hR.ok.s1
  have hn4 := hR.ok.n4
  have hn1 := hR.ok.n1
  have hlo := hR.ok.lo
  obtain ⟨X, hX⟩ : ∃ X, secB st (J.lo + slot) = X := ⟨_, rfl⟩
  obtain ⟨ST, hST⟩ : ∃ ST : Dk, { st with reads := st.reads + 1 } = ST := ⟨_, rfl⟩
  have HS1 : Hid (IntKind.i64.wrap ((J.lo : Int) + slot) = ((J.lo + slot : Nat) : Int)) := by show _ = _; rw [i64_small] <;> omega
  obtain ⟨S, hS⟩ : ∃ S, J.size = S := ⟨_, rfl⟩
  have hXL : X.length = S := by
    obtain ⟨⟨Z, sv, hd, _⟩, _, dok, _⟩ := hR
    rw [← hX, ← hS, ← dok.size]
    exact secB_len hd.okR (by have := dok.n; omega)
  obtain ⟨hb, hhb⟩ : ∃ hb, w0.heap.size = hb := ⟨_, rfl⟩
  have HRD : Hid (∀ w1, RdW Q r d st J w0 w1 hb → Calls Try.prog 29 #[.pointer (some ⟨d, 0, none⟩), .int .i64 ((J.lo + slot : Nat) : Int)] w1 fun e w' => ∃ a c, e = .returned (.tuple #[.slice a S c, .int .i64 0]) ∧ Owns .u8 5 w' hb (.slice a S c) X ∧ RdW Q r d ST J w0 w' hb) := by
    intro w1 h1
    refine (h1.ri.read (J.lo + slot) (by omega) hoff hrd).mono ?_
    rintro e w2 ⟨a, c, rfl, ho, h2, ht⟩
    rw [hS] at ho ⊢
    rw [hX] at ho
    rw [hST] at h2
    exact ⟨a, c, rfl, ho.mono (by have := h1.tnd.size; omega), h1.turn h2 ht⟩
  have RI := Lib.hid hR
  have hQ := hR.lt
  rw [hX, hST]
  have HQ := Lib.hid hQ
  have HXL := Lib.hid hXL
  clear hX hST hXL hR hQ hoff hrd
  go_enter Try.func42, Try.ntmps42
  have hrow := heap_alloc_new w0 (.cells #[.int .u64 0, .int .u64 0, .int .u64 0, .int .i64 0] 76)
  have hba : Below w0.heap.size w0 (w0.alloc (.cells #[.int .u64 0, .int .u64 0, .int .u64 0, .int .i64 0] 76)) := (Below.refl _ _).alloc (Nat.le_refl _) _
  go_wp2_with fail
  obtain ⟨wa, hwa⟩ : ∃ wa, w0.alloc (.cells #[.int .u64 0, .int .u64 0, .int .u64 0, .int .i64 0] 76) = wa := ⟨_, rfl⟩
  rw [hwa] at hrow hba
  rw [hwa]
  have RW : RdW Q r d st J w0 wa hb := ⟨RI.out.below hba, below_tnd hba Q, by omega, HQ.out, by rw [← hhb]; exact hrow⟩
  obtain ⟨⟨Z, sv, hd, hr, ho, hz, hq, hn, hg⟩, ok, dok, lt⟩ := RW.ri
  have ROW := hr
  clear hd ho hz hq hn hg dok lt hwa hrow hba hr
  refine' reg_order [eqV _, eqV _, eqV _, eqV _, eqV _, eqV _, eqV _, eqV _, eqV _, eqV _, fun v w => (∃ a c, v = Value.tuple #[Value.slice a S c, Value.int .i64 0] ∧ Owns .u8 5 w hb (Value.slice a S c) X) ∧ RdW Q r d ST J w0 w hb, fun v w => ∃ a c, v = Value.tuple #[Value.slice a S c, Value.int .i64 0] ∧ Owns .u8 5 w hb (Value.slice a S c) X, fun v w => ∃ a c, v = Value.slice a S c ∧ Owns .u8 5 w hb (Value.slice a S c) X, eqV _, fun v w => ∃ a c, v = Value.slice a S c ∧ Owns .u8 5 w hb (Value.slice a S c) X, eqV _] [(10, fun w w' => True)] [(3, fun w => w.heap[r]? = some (rowJ d sv J)), (7, fun w => w.heap[r]? = some (rowJ d sv J)), (10, fun w => RdW Q r d st J w0 w hb)] [15, 16, 17, 18, 19, 20, 21, 22, 23, 24, 25, 14, 26, 27, 6, 7] [[], [0], [1], [2], [], [4], [5], [6], [], [7, 8], [3, 9], [10], [11], [11], [12], [13]] [0, 1, 2, 3, 4, 5, 6, 7, 8, 9, 10, 11, 12, 13, 14, 15] 16 (by kernel_rfl) ⟨eqV_stays _, eqV_stays _, eqV_stays _, eqV_stays _, eqV_stays _, eqV_stays _, eqV_stays _, eqV_stays _, eqV_stays _, eqV_stays _, fun _ _ _ p b => ⟨p.1.elim fun a q => q.elim fun c q => ⟨a, c, q.1, q.2.below b⟩, p.2.below b⟩, fun _ _ _ p b => p.elim fun a q => q.elim fun c q => ⟨a, c, q.1, q.2.below b⟩, fun _ _ _ p b => p.elim fun a q => q.elim fun c q => ⟨a, c, q.1, q.2.below b⟩, eqV_stays _, fun _ _ _ p b => p.elim fun a q => q.elim fun c q => ⟨a, c, q.1, q.2.below b⟩, eqV_stays _, trivial⟩ ⟨⟨.inl (eqV_stays _), .inl (eqV_stays _), .inl (eqV_stays _), .inl (eqV_stays _), .inl (eqV_stays _), .inl (eqV_stays _), .inl (eqV_stays _), .inl (eqV_stays _), .inl (eqV_stays _), .inl (eqV_stays _), .inr (.inr rfl), .inr (.inl (by kernel_rfl)), .inr (.inl (by kernel_rfl)), .inl (eqV_stays _), .inr (.inl (by kernel_rfl)), .inl (eqV_stays _), trivial⟩, trivial⟩ ⟨fun _ _ p b => row_keep p b, fun _ _ p b => row_keep p b, fun _ _ p b => p.below b, trivial⟩ ⟨⟨.inr (.inl (by kernel_rfl)), .inr (.inl (by kernel_rfl)), .inr (.inr rfl), trivial⟩, trivial⟩ ⟨ROW, ROW, RW.drew, trivial⟩ 102 rfl (by kernel_rfl) (by kernel_rfl) rfl rfl 16 rfl ?q7obl ?q7fin
  case q7obl =>
    refine And.intro ?q7o0 (And.intro ?q7o1 (And.intro ?q7o2 (And.intro ?q7o3 (And.intro ?q7o4 (And.intro ?q7o5 (And.intro ?q7o6 (And.intro ?q7o7 (And.intro ?q7o8 (And.intro ?q7o9 (And.intro ?q7o10 (And.intro ?q7o11 (And.intro ?q7o12 (And.intro ?q7o13 (And.intro ?q7o14 (And.intro ?q7o15 (True.intro))))))))))))))))
    case q7o0 =>
      intro w1 hI
      refine turn2_on (by rfl) ?_
      intro K hK
      go_simp
      refine hK _ _ ⟨rfl, Kept.refl _, ?_⟩
      show _ = _
      simp only [gv1]
      rfl
    case q7o1 =>
      intro w1 hI
      intro v0 h0
      change _ = _ at h0
      subst v0
      refine turn2_on (by rfl) ?_
      intro K hK
      simp only [gv2]
      go_simp
      refine hK _ _ ⟨rfl, Kept.refl _, ?_⟩
      show _ = _
      simp only [gv1]
      rfl
    case q7o2 =>
      intro w1 hI
      intro v1 h1
      change _ = _ at h1
      subst v1
      refine turn2_on (by rfl) ?_
      intro K hK
      simp only [gv2]
      go_simp
      refine hK _ _ ⟨rfl, Kept.refl _, ?_⟩
      show _ = _
      simp only [gv1]
      rfl
    case q7o3 =>
      intro w1 hI
      replace hI : (fun w => w.heap[r]? = some (rowJ d sv J)) w1 := hI
      intro v2 h2
      change _ = _ at h2
      subst v2
      refine turn2_on (by rfl) ?_
      intro K hK
      simp only [gv2]
      obtain ⟨y0, y1, y2, y3, y4, y5, y6, y7, y8, yf⟩ := cellsJ hI
      clear hI
      go_simp
      refine hK _ _ ⟨rfl, Kept.refl _, ?_⟩
      show _ = _
      simp only [gv1]
      rfl
    case q7o4 =>
      intro w1 hI
      refine turn2_on (by rfl) ?_
      intro K hK
      go_simp
      refine hK _ _ ⟨rfl, Kept.refl _, ?_⟩
      show _ = _
      simp only [gv1]
      rfl
    case q7o5 =>
      intro w1 hI
      intro v4 h4
      change _ = _ at h4
      subst v4
      refine turn2_on (by rfl) ?_
      intro K hK
      simp only [gv2]
      go_simp
      refine hK _ _ ⟨rfl, Kept.refl _, ?_⟩
      show _ = _
      simp only [gv1]
      rfl
    case q7o6 =>
      intro w1 hI
      intro v5 h5
      change _ = _ at h5
      subst v5
      refine turn2_on (by rfl) ?_
      intro K hK
      simp only [gv2]
      go_simp
      refine hK _ _ ⟨rfl, Kept.refl _, ?_⟩
      show _ = _
      simp only [gv1]
      rfl
    case q7o7 =>
      intro w1 hI
      replace hI : (fun w => w.heap[r]? = some (rowJ d sv J)) w1 := hI
      intro v6 h6
      change _ = _ at h6
      subst v6
      refine turn2_on (by rfl) ?_
      intro K hK
      simp only [gv2]
      obtain ⟨y0, y1, y2, y3, y4, y5, y6, y7, y8, yf⟩ := cellsJ hI
      clear hI
      go_simp
      refine hK _ _ ⟨rfl, Kept.refl _, ?_⟩
      show _ = _
      simp only [gv1]
      rfl
    case q7o8 =>
      intro w1 hI
      refine turn2_on (by rfl) ?_
      intro K hK
      go_simp
      refine hK _ _ ⟨rfl, Kept.refl _, ?_⟩
      show _ = _
      simp only [gv1]
      rfl
    case q7o9 =>
      intro w1 hI
      intro v7 h7
      change _ = _ at h7
      subst v7
      intro v8 h8
      change _ = _ at h8
      subst v8
      refine turn2_on (by rfl) ?_
      intro K hK
      simp only [gv2]
      go_simp
      refine hK _ _ ⟨rfl, Kept.refl _, ?_⟩
      show _ = _
      simp only [gv1]
      rfl
    case q7o10 =>
      intro w1 hI
      replace hI : (fun w => RdW Q r d st J w0 w hb) w1 := hI
      intro v3 h3
      change _ = _ at h3
      subst v3
      intro v9 h9
      change _ = _ at h9
      subst v9
      refine turn2_on (by rfl) ?_
      intro K hK
      simp only [gv2]
      go_simp
      rw [HS1.out]
      refine Calls.mono (HRD.out w1 hI) ?_
      rintro e w2 ⟨a2, c2, rfl, ho2, h2⟩
      refine hK _ _ ⟨rfl, trivial, ?_⟩
      show (∃ a c, _ = Value.tuple #[Value.slice a S c, Value.int .i64 0] ∧ Owns .u8 5 w2 hb (Value.slice a S c) X) ∧ RdW Q r d ST J w0 w2 hb
      simp only [gv1]
      exact ⟨⟨a2, c2, rfl, ho2⟩, h2⟩
    case q7o11 =>
      intro w1 hI
      intro v10 h10
      obtain ⟨⟨a10, c10, rfl, h10⟩, g10⟩ := h10
      refine turn2_on (by rfl) ?_
      intro K hK
      simp only [gv2]
      go_simp
      refine hK _ _ ⟨rfl, Kept.refl _, ?_⟩
      show ∃ a c, _ = Value.tuple #[Value.slice a S c, Value.int .i64 0] ∧ Owns .u8 5 w1 hb (Value.slice a S c) X
      simp only [gv1]
      exact ⟨a10, c10, rfl, h10⟩
    case q7o12 =>
      intro w1 hI
      intro v11 h11
      obtain ⟨a11, c11, rfl, h11⟩ := h11
      refine turn2_on (by rfl) ?_
      intro K hK
      simp only [gv2]
      go_simp
      refine hK _ _ ⟨rfl, Kept.refl _, ?_⟩
      show ∃ a c, _ = Value.slice a S c ∧ Owns .u8 5 w1 hb (Value.slice a S c) X
      simp only [gv1]
      exact ⟨a11, c11, rfl, h11⟩
    case q7o13 =>
      intro w1 hI
      intro v11 h11
      obtain ⟨a11, c11, rfl, h11⟩ := h11
      refine turn2_on (by rfl) ?_
      intro K hK
      simp only [gv2]
      go_simp
      refine hK _ _ ⟨rfl, Kept.refl _, ?_⟩
      show _ = _
      simp only [gv1]
      rfl
    case q7o14 =>
      intro w1 hI
      intro v12 h12
      obtain ⟨a12, c12, rfl, h12⟩ := h12
      refine turn2_on (by rfl) ?_
      intro K hK
      simp only [gv2]
      go_simp
      refine hK _ _ ⟨rfl, Kept.refl _, ?_⟩
      show ∃ a c, _ = Value.slice a S c ∧ Owns .u8 5 w1 hb (Value.slice a S c) X
      simp only [gv1]
      exact ⟨a12, c12, rfl, h12⟩
    case q7o15 =>
      intro w1 hI
      intro v13 h13
      change _ = _ at h13
      subst v13
      refine turn2_on (by rfl) ?_
      intro K hK
      simp only [gv2]
      go_simp
      refine hK _ _ ⟨rfl, Kept.refl _, ?_⟩
      show _ = _
      simp only [gv1]
      rfl
  intro w9 hI
  intro v0 h0
  change _ = _ at h0
  subst v0
  intro v1 h1
  change _ = _ at h1
  subst v1
  intro v2 h2
  change _ = _ at h2
  subst v2
  intro v3 h3
  change _ = _ at h3
  subst v3
  intro v4 h4
  change _ = _ at h4
  subst v4
  intro v5 h5
  change _ = _ at h5
  subst v5
  intro v6 h6
  change _ = _ at h6
  subst v6
  intro v7 h7
  change _ = _ at h7
  subst v7
  intro v8 h8
  change _ = _ at h8
  subst v8
  intro v9 h9
  change _ = _ at h9
  subst v9
  intro v10 h10
  obtain ⟨⟨a10, c10, rfl, h10⟩, g10⟩ := h10
  intro v11 h11
  obtain ⟨a11, c11, rfl, h11⟩ := h11
  intro v12 h12
  obtain ⟨a12, c12, rfl, h12⟩ := h12
  intro v13 h13
  change _ = _ at h13
  subst v13
  intro v14 h14
  obtain ⟨a14, c14, rfl, h14⟩ := h14
  intro v15 h15
  change _ = _ at h15
  subst v15
  simp only [Given, gv2]
  clear HRD HS1 RI RW ROW
  have X14 := Lib.hid h14
  have G10 := Lib.hid g10
  clear h14 g10 h11 h12 h10
  go_wp2_with fail
  refine (open_any a14 S c14 X w9 X14.out.rd (by omega)).mono ?_
  rintro e w1 ⟨v1, rfl, ho1, hb1⟩
  have G1 := Lib.hid (G10.out.below hb1)
  have hbw : hb < w1.heap.size := (Array.getElem?_eq_some_iff.1 G1.out.res).1
  cases hop : openOk X with
  | false =>
    have hE : openE X = 23 := by unfold openE; rw [if_neg (by rw [HXL.out]; omega), hop]; rfl
    have HN : Hid (hdR J.n X slot = none) := by show _ = _; unfold hdR; rw [hop]; rfl
    rw [hE]
    clear ho1 hb1 hop hE X14 G10
    obtain ⟨z0, z1, z2, z3⟩ := cells4 G1.out.res
    have zf : ∀ i, w1.frozen? ⟨hb, i, none⟩ = false := fun i => frozen_of_row w1 hb i _ _ G1.out.res
    go_wp2_with fail
    change bodyPost _ _ _ _ _ (setsR w1 hb [(0, .int .u64 0), (1, .int .u64 0), (2, .int .u64 0), (3, .int .i64 0)])
    obtain ⟨hrow, hri, htn⟩ := G1.out.fin [(0, .int .u64 0), (1, .int .u64 0), (2, .int .u64 0), (3, .int .i64 0)]
    generalize setsR w1 hb [(0, .int .u64 0), (1, .int .u64 0), (2, .int .u64 0), (3, .int .i64 0)] = wf at *
    rw [fold4] at hrow
    clear z0 z1 z2 z3 zf
    obtain ⟨z0, z1, z2, z3⟩ := cells4 hrow
    refine bodyPost_ret (v := .tuple #[.agg #[.int .u64 0, .int .u64 0, .int .u64 0, .int .i64 0], .int .i64 20]) (by simp [results, Try.results42, go_sem, z0, z1, z2, z3]) rfl ?_
    rw [HN.out]
    exact ⟨rfl, hri, htn⟩
  | true =>
    have hE : openE X = 0 := by unfold openE; rw [if_neg (by rw [HXL.out]; omega), hop]; rfl
    obtain ⟨B, hB⟩ : ∃ B, openL X = B := ⟨_, rfl⟩
    have hBL : B.length = S - 4 := by rw [← hB]; unfold openL; rw [if_pos hop, List.length_take, HXL.out]; omega
    rw [hE]
    rw [hB] at ho1
    obtain ⟨a1, c1, rfl⟩ := ho1.shapeN (S - 4) hBL
    obtain ⟨g1, rfl⟩ : ∃ g, a1 = some ⟨g, 0, none⟩ := by
      obtain ⟨g, e, _⟩ := ho1.cellAt 0 (by omega)
      exact ⟨g, e⟩
    have HO := Lib.hid ho1.rd
    have HN : Hid (hdR J.n X slot = if hdK J.n B slot = true then some (hdF B) else none) := by show _ = _; unfold hdR; rw [if_pos hop, hB]
    have HBL := Lib.hid hBL
    have hcap := ho1.rd.cap
    have hmax := ho1.rd.max
    unfold maxLen at hmax
    clear ho1 hb1 hop hE X14 G10 hB hBL
    go_wp2_with fail
    have hrow2 := heap_alloc_new w1 (.cells #[.int .u64 0, .int .u64 0, .int .u64 0, .int .u64 0] 114)
    have hba2 : Below w1.heap.size w1 (w1.alloc (.cells #[.int .u64 0, .int .u64 0, .int .u64 0, .int .u64 0] 114)) := (Below.refl _ _).alloc (Nat.le_refl _) _
    obtain ⟨ab, hab⟩ : ∃ ab, w1.heap.size = ab := ⟨_, rfl⟩
    obtain ⟨w2, hw2⟩ : ∃ w2, w1.alloc (.cells #[.int .u64 0, .int .u64 0, .int .u64 0, .int .u64 0] 114) = w2 := ⟨_, rfl⟩
    rw [hw2, hab]
    rw [hw2] at hrow2 hba2
    have G2 := Lib.hid (G1.out.below hba2)
    have HO2 := Lib.hid (HO.out.below hba2)
    have A2 : Hid (∃ vs : List Int, w2.heap[ab]? = some (.cells (vs.map (Value.int .u64)).toArray 114 (0, 0)) ∧ vs.length = 4 ∧ ∀ i, i < 0 → nth vs i = hdV B i) := by
      refine ⟨[0, 0, 0, 0], ?_, rfl, fun i hi => by omega⟩
      rw [← hab]
      exact hrow2
    have hge : w0.heap.size ≤ ab := by have := G1.out.tnd.size; omega
    have hgb : RdAt .u8 w1 (some ⟨g1, 0, none⟩) (S - 4) c1 B := HO.out
    have hg1 : g1 < ab := by
      obtain ⟨b, o, e, hc⟩ := hgb.cell 0 (by omega)
      injection e with e
      injection e with e1 e2
      subst e1
      rw [← hab]
      exact block_lt_of_cell hc
    rw [hab] at hbw
    clear hrow2 hba2 hw2 hgb HO
    go_loopw [40] (fun i wr => ∃ k : Nat, k ≤ 4 ∧ i = .int .i64 k ∧ Hid (RdW Q r d ST J w0 wr hb) ∧ Hid (RdAt .u8 wr (some ⟨g1, 0, none⟩) (S - 4) c1 B) ∧ Hid (∃ vs : List Int, wr.heap[ab]? = some (.cells (vs.map (Value.int .u64)).toArray 114 (0, 0)) ∧ vs.length = 4 ∧ ∀ i, i < k → nth vs i = hdV B i)) (fun i _ => 4 - (intOf i).toNat)
    case atStart => exact ⟨0, by omega, rfl, G2, HO2, A2⟩
    case round =>
      obtain ⟨k, hk, rfl, GR, OR, AR⟩ := hrel
      clear G2 HO2 A2 G1
      by_cases hk4 : k < 4
      · have dk : decide ((k : Int) < 4) = true := decide_eq_true (by omega)
        obtain ⟨vs, hvr, hvl, hvi⟩ := AR.out
        have HVI := Lib.hid hvi
        have HVR := Lib.hid hvr
        have hvf : ∀ i, wr.frozen? ⟨ab, i, none⟩ = false := fun i => frozen_of_row wr ab i _ _ hvr
        have hvc : wr.cell? ⟨ab, k, none⟩ = some (.int .u64 (nth vs k)) := by
          rw [cell_of_row wr _ _ _ _ _ hvr, nth_eq (by omega)]
          simp [show k < vs.length by omega]
        have HG : Hid (Calls Try.prog 62 #[.slice (some ⟨g1, 4 + 8 * k, none⟩) (S - 4 - (4 + 8 * k)) (c1 - (4 + 8 * k)), .int .i64 8] wr fun e w' => e = .returned (.tuple #[.int .u64 (hdV B k), .bool true]) ∧ wr = w') := by
          have h := get_any _ _ _ _ 8 wr (RdAt.drop OR.out (4 + 8 * k) (by omega))
          have hok : getOk (S - 4 - (4 + 8 * k)) 8 = true := by unfold getOk; simp; omega
          rw [hok, show (8 : Int) = ((8 : Nat) : Int) from rfl, getV_yes (m := 8) hok] at h
          rw [Nat.zero_add] at h
          exact h
        clear hvi hvr
        go_wp2_with fail
        refine HG.out.mono ?_
        rintro e w3 ⟨rfl, rfl⟩
        go_wp2_with fail
        go_roundw
        case rel =>
          have hg := cell_grownR wr ab k (.int .u64 (hdV B k))
          refine ⟨k + 1, by omega, by go_num, GR.out.at_ hg hge (by omega), OR.out.at (hg.block g1 (rd_lt OR.out (by omega)) (fun e => by injection e with e; omega)), vs.set k (hdV B k), ?_, by rw [List.length_set]; exact hvl, fun i hi => ?_⟩
          · rw [heap_setCell_same wr ab k _ _ _ HVR.out]; simp
          · by_cases hik : i = k
            · subst hik
              simp [nth, List.getD, show i < vs.length by omega]
            · have h := HVI.out i (by omega)
              unfold nth List.getD at h ⊢
              rw [List.getElem?_set_ne (by omega)]
              exact h
        case measure => simp [intOf] <;> omega
      · obtain rfl : k = 4 := by omega
        obtain ⟨vs, hvr, hvl, hvi⟩ := AR.out
        obtain ⟨v0, v1, v2, v3, rfl⟩ : ∃ v0 v1 v2 v3, vs = [v0, v1, v2, v3] := by
          match vs, hvl with
          | [a, b, c, d], _ => exact ⟨a, b, c, d, rfl⟩
        have hv0 := hvi 0 (by omega)
        have hv1 := hvi 1 (by omega)
        have hv2 := hvi 2 (by omega)
        have hv3 := hvi 3 (by omega)
        change v0 = _ at hv0
        change v1 = _ at hv1
        change v2 = _ at hv2
        change v3 = _ at hv3
        have hbd : ∀ i, i < 4 → 0 ≤ hdV B i ∧ hdV B i ≤ 18446744073709551615 := fun i hi => by
          have h := getK_bd (B.drop (4 + 8 * i)) 8 (fun j hj => by
            have hr := RdAt.drop OR.out (4 + 8 * i) (by omega)
            exact hr.byte j (by omega))
          unfold hdV
          have : (2 : Int) ^ (8 * 8) = 18446744073709551616 := by decide
          omega
        have b0 := hbd 0 (by omega)
        have b1 := hbd 1 (by omega)
        have b2 := hbd 2 (by omega)
        have b3 := hbd 3 (by omega)
        rw [← hv0] at b0
        rw [← hv1] at b1
        rw [← hv2] at b2
        rw [← hv3] at b3
        have HF : Hid (hdF B = ⟨v0, v1, v2, v3⟩) := by show _ = _; unfold hdF; rw [hv0, hv1, hv2, hv3]
        obtain ⟨mg, hmg⟩ : ∃ mg, getK B 4 = mg := ⟨_, rfl⟩
        have hm0 : 0 ≤ mg ∧ mg ≤ 4294967295 := by
          have h := getK_bd B 4 (fun j hj => OR.out.byte j (by omega))
          rw [hmg] at h
          have : (2 : Int) ^ (8 * 4) = 4294967296 := by decide
          omega
        have HK : Hid (hdK J.n B slot = (decide (mg = 1196312914) && decide (v0 % 2 = slot) && decide (1 ≤ v1) && decide (v1 ≤ v2) && decide (v3 < (J.n : Int) - 2))) := by
          show _ = _
          unfold hdK
          rw [hmg, hv0, hv1, hv2, hv3]
        have HG : Hid (∀ wx, RdAt .u8 wx (some ⟨g1, 0, none⟩) (S - 4) c1 B → Calls Try.prog 62 #[.slice (some ⟨g1, 0, none⟩) (S - 4) c1, .int .i64 4] wx fun e w' => e = .returned (.tuple #[.int .u64 mg, .bool true]) ∧ wx = w') := by
          intro wx hx
          have h := get_any _ _ _ _ 4 wx hx
          have hok : getOk (S - 4) 4 = true := by unfold getOk; simp; omega
          rw [hok, show (4 : Int) = ((4 : Nat) : Int) from rfl, getV_yes (m := 4) hok, hmg] at h
          exact h
        have hvc := hvr
        obtain ⟨y0, y1, y2, y3⟩ := cells4 (show wr.heap[ab]? = some (.cells #[.int .u64 v0, .int .u64 v1, .int .u64 v2, .int .u64 v3] 114 (0, 0)) from hvr)
        have HVR : Hid (wr.heap[ab]? = some (.cells #[.int .u64 v0, .int .u64 v1, .int .u64 v2, .int .u64 v3] 114 (0, 0))) := hvr
        have hw64 : wrap64 v3 = wrap64 v3 := rfl
        clear hvr hvi hvc hv0 hv1 hv2 hv3 hbd hmg AR hvl
        go_wp2_with fail
        have hrow4 := heap_alloc_new wr (.cells #[.int .u64 v0, .int .u64 v1, .int .u64 v2, .int .i64 (wrap64 v3)] 76)
        have hba4 : Below wr.heap.size wr (wr.alloc (.cells #[.int .u64 v0, .int .u64 v1, .int .u64 v2, .int .i64 (wrap64 v3)] 76)) := (Below.refl _ _).alloc (Nat.le_refl _) _
        obtain ⟨h2, hh2⟩ : ∃ h2, wr.heap.size = h2 := ⟨_, rfl⟩
        obtain ⟨w4, hw4⟩ : ∃ w4, wr.alloc (.cells #[.int .u64 v0, .int .u64 v1, .int .u64 v2, .int .i64 (wrap64 v3)] 76) = w4 := ⟨_, rfl⟩
        rw [hw4, hh2] at hrow4
        rw [hw4] at hba4
        rw [hw4]
        have HD4 := Lib.hid hrow4
        have AR4 := Lib.hid (row_keep HVR.out hba4)
        have G4 := Lib.hid (GR.out.below hba4)
        have HO4 := Lib.hid (OR.out.below hba4)
        refine (HG.out w4 HO4.out).mono ?_
        rintro e w5 ⟨rfl, rfl⟩
        go_wp2_with fail
        obtain ⟨⟨Z, sv, hd, hr, ho, hz, hq, hn, hg⟩, ok, dok, lt⟩ := G4.out.ri
        have ROW4 := Lib.hid hr
        have OK := Lib.hid ok
        have hbne : hb ≠ h2 := by
          have := (Array.getElem?_eq_some_iff.1 GR.out.res).1
          omega
        clear hd ho hz hq hn hg dok lt hr ok hw4 hrow4 hba4 HG GR OR HVR y0 y1 y2 y3 hh2
        obtain ⟨sl, hsl⟩ : ∃ sl, v0 % 2 = sl := ⟨_, rfl⟩
        have hsl2 : v0.tmod 2 = sl := by rw [Int.tmod_eq_emod_of_nonneg b0.1, hsl]
        rw [hsl] at HK
        have hsl3 : 0 ≤ sl ∧ sl ≤ 1 := by omega
        have hws : IntKind.u64.wrap (slot : Int) = slot := by rw [IntKind.wrap_u64]; omega
        have hwn : IntKind.u64.wrap ((J.n : Int) - 2) = (J.n : Int) - 2 := by rw [IntKind.wrap_u64]; omega
        clear hsl
        by_cases hm : mg = 1196312914
        rotate_left
        · have mm : (mg != 1196312914) = true := by simpa using hm
          have HKN : Hid (hdK J.n B slot = false) := by show _ = _; rw [HK.out, decide_eq_false (show ¬ mg = 1196312914 from hm)]; simp
          clear HK
          refine' reg_free (G := Kept) (pickF [eqV _, eqV _, eqV _, eqV _, eqV _, eqV _, eqV _, eqV _, eqV _, eqV _, eqV _, eqV _, eqV _, eqV _, eqV _, eqV _, eqV _, eqV _, eqV _, eqV _, eqV _, eqV _, eqV _, eqV _, eqV _, eqV _, eqV _, eqV _, eqV _, eqV _]) [70, 71, 72, 73, 74, 75, 76, 77, 78, 79, 80, 81, 82, 83, 84, 85, 86, 87, 88, 89, 90, 91, 92, 93, 94, 95, 96, 97, 98, 99] [[], [0], [1], [2], [2, 3], [2, 4], [2], [2, 6], [2, 5, 7], [2, 8], [9], [10], [10, 11], [10, 12], [10, 13], [14], [15], [15, 16], [15], [15, 18], [15, 17, 19], [15, 20], [21], [22], [22, 23], [22], [22, 25], [22, 26], [22, 24, 27], [22, 28]] [0, 1, 2, 3, 4, 5, 6, 7, 8, 9, 10, 11, 12, 13, 14, 15, 16, 17, 18, 19, 20, 21, 22, 23, 24, 25, 26, 27, 28, 29] (by kernel_rfl) Kept.refl Kept.trans (pick_stays ⟨eqV_stays _, eqV_stays _, eqV_stays _, eqV_stays _, eqV_stays _, eqV_stays _, eqV_stays _, eqV_stays _, eqV_stays _, eqV_stays _, eqV_stays _, eqV_stays _, eqV_stays _, eqV_stays _, eqV_stays _, eqV_stays _, eqV_stays _, eqV_stays _, eqV_stays _, eqV_stays _, eqV_stays _, eqV_stays _, eqV_stays _, eqV_stays _, eqV_stays _, eqV_stays _, eqV_stays _, eqV_stays _, eqV_stays _, eqV_stays _, trivial⟩) 102 rfl (by kernel_rfl) (by kernel_rfl) rfl rfl ?r1obl ?r1fin
          case r1obl =>
            refine And.intro ?r1o0 (And.intro ?r1o1 (And.intro ?r1o2 (And.intro ?r1o3 (And.intro ?r1o4 (And.intro ?r1o5 (And.intro ?r1o6 (And.intro ?r1o7 (And.intro ?r1o8 (And.intro ?r1o9 (And.intro ?r1o10 (And.intro ?r1o11 (And.intro ?r1o12 (And.intro ?r1o13 (And.intro ?r1o14 (And.intro ?r1o15 (And.intro ?r1o16 (And.intro ?r1o17 (And.intro ?r1o18 (And.intro ?r1o19 (And.intro ?r1o20 (And.intro ?r1o21 (And.intro ?r1o22 (And.intro ?r1o23 (And.intro ?r1o24 (And.intro ?r1o25 (And.intro ?r1o26 (And.intro ?r1o27 (And.intro ?r1o28 (And.intro ?r1o29 (True.intro))))))))))))))))))))))))))))))
            case r1o0 =>
              intro w1 hG
              refine turn_on (by rfl) ?_
              intro K hK
              go_simp
              refine hK _ _ ⟨rfl, Kept.refl _, ?_⟩
              show _ = _
              simp only [gv1]
              rfl
            case r1o1 =>
              intro w1 hG
              intro v0 h0
              change _ = _ at h0
              subst h0
              refine turn_on (by rfl) ?_
              intro K hK
              simp only [gv2]
              go_simp
              refine hK _ _ ⟨rfl, Kept.refl _, ?_⟩
              show _ = _
              simp only [gv1]
              rfl
            case r1o2 =>
              intro w1 hG
              intro v1 h1
              change _ = _ at h1
              subst h1
              refine turn_on (by rfl) ?_
              intro K hK
              simp only [gv2]
              go_simp
              refine hK _ _ ⟨rfl, Kept.refl _, ?_⟩
              show _ = _
              simp only [gv1]
              rfl
            case r1o3 =>
              intro w1 hG
              intro v2 h2
              change _ = _ at h2
              subst h2
              refine turn_off (by rfl) ?_
              show _ = _
              rfl
            case r1o4 =>
              intro w1 hG
              intro v2 h2
              change _ = _ at h2
              subst h2
              intro v3 h3
              change _ = _ at h3
              subst h3
              refine turn_off (by rfl) ?_
              show _ = _
              rfl
            case r1o5 =>
              intro w1 hG
              intro v2 h2
              change _ = _ at h2
              subst h2
              intro v4 h4
              change _ = _ at h4
              subst h4
              refine turn_off (by rfl) ?_
              show _ = _
              rfl
            case r1o6 =>
              intro w1 hG
              intro v2 h2
              change _ = _ at h2
              subst h2
              refine turn_off (by rfl) ?_
              show _ = _
              rfl
            case r1o7 =>
              intro w1 hG
              intro v2 h2
              change _ = _ at h2
              subst h2
              intro v6 h6
              change _ = _ at h6
              subst h6
              refine turn_off (by rfl) ?_
              show _ = _
              rfl
            case r1o8 =>
              intro w1 hG
              intro v2 h2
              change _ = _ at h2
              subst h2
              intro v5 h5
              change _ = _ at h5
              subst h5
              intro v7 h7
              change _ = _ at h7
              subst h7
              refine turn_off (by rfl) ?_
              show _ = _
              rfl
            case r1o9 =>
              intro w1 hG
              intro v2 h2
              change _ = _ at h2
              subst h2
              intro v8 h8
              change _ = _ at h8
              subst h8
              refine turn_on (by rfl) ?_
              intro K hK
              simp only [gv2]
              go_simp
              refine hK _ _ ⟨rfl, Kept.refl _, ?_⟩
              show _ = _
              simp only [gv1]
              rfl
            case r1o10 =>
              intro w1 hG
              intro v9 h9
              change _ = _ at h9
              subst h9
              refine turn_on (by rfl) ?_
              intro K hK
              simp only [gv2]
              go_simp
              refine hK _ _ ⟨rfl, Kept.refl _, ?_⟩
              show _ = _
              simp only [gv1]
              rfl
            case r1o11 =>
              intro w1 hG
              intro v10 h10
              change _ = _ at h10
              subst h10
              refine turn_off (by rfl) ?_
              show _ = _
              rfl
            case r1o12 =>
              intro w1 hG
              intro v10 h10
              change _ = _ at h10
              subst h10
              intro v11 h11
              change _ = _ at h11
              subst h11
              refine turn_off (by rfl) ?_
              show _ = _
              rfl
            case r1o13 =>
              intro w1 hG
              intro v10 h10
              change _ = _ at h10
              subst h10
              intro v12 h12
              change _ = _ at h12
              subst h12
              refine turn_off (by rfl) ?_
              show _ = _
              rfl
            case r1o14 =>
              intro w1 hG
              intro v10 h10
              change _ = _ at h10
              subst h10
              intro v13 h13
              change _ = _ at h13
              subst h13
              refine turn_on (by rfl) ?_
              intro K hK
              simp only [gv2]
              go_simp
              refine hK _ _ ⟨rfl, Kept.refl _, ?_⟩
              show _ = _
              simp only [gv1]
              rfl
            case r1o15 =>
              intro w1 hG
              intro v14 h14
              change _ = _ at h14
              subst h14
              refine turn_on (by rfl) ?_
              intro K hK
              simp only [gv2]
              go_simp
              refine hK _ _ ⟨rfl, Kept.refl _, ?_⟩
              show _ = _
              simp only [gv1]
              rfl
            case r1o16 =>
              intro w1 hG
              intro v15 h15
              change _ = _ at h15
              subst h15
              refine turn_off (by rfl) ?_
              show _ = _
              rfl
            case r1o17 =>
              intro w1 hG
              intro v15 h15
              change _ = _ at h15
              subst h15
              intro v16 h16
              change _ = _ at h16
              subst h16
              refine turn_off (by rfl) ?_
              show _ = _
              rfl
            case r1o18 =>
              intro w1 hG
              intro v15 h15
              change _ = _ at h15
              subst h15
              refine turn_off (by rfl) ?_
              show _ = _
              rfl
            case r1o19 =>
              intro w1 hG
              intro v15 h15
              change _ = _ at h15
              subst h15
              intro v18 h18
              change _ = _ at h18
              subst h18
              refine turn_off (by rfl) ?_
              show _ = _
              rfl
            case r1o20 =>
              intro w1 hG
              intro v15 h15
              change _ = _ at h15
              subst h15
              intro v17 h17
              change _ = _ at h17
              subst h17
              intro v19 h19
              change _ = _ at h19
              subst h19
              refine turn_off (by rfl) ?_
              show _ = _
              rfl
            case r1o21 =>
              intro w1 hG
              intro v15 h15
              change _ = _ at h15
              subst h15
              intro v20 h20
              change _ = _ at h20
              subst h20
              refine turn_on (by rfl) ?_
              intro K hK
              simp only [gv2]
              go_simp
              refine hK _ _ ⟨rfl, Kept.refl _, ?_⟩
              show _ = _
              simp only [gv1]
              rfl
            case r1o22 =>
              intro w1 hG
              intro v21 h21
              change _ = _ at h21
              subst h21
              refine turn_on (by rfl) ?_
              intro K hK
              simp only [gv2]
              go_simp
              refine hK _ _ ⟨rfl, Kept.refl _, ?_⟩
              show _ = _
              simp only [gv1]
              rfl
            case r1o23 =>
              intro w1 hG
              intro v22 h22
              change _ = _ at h22
              subst h22
              refine turn_off (by rfl) ?_
              show _ = _
              rfl
            case r1o24 =>
              intro w1 hG
              intro v22 h22
              change _ = _ at h22
              subst h22
              intro v23 h23
              change _ = _ at h23
              subst h23
              refine turn_off (by rfl) ?_
              show _ = _
              rfl
            case r1o25 =>
              intro w1 hG
              intro v22 h22
              change _ = _ at h22
              subst h22
              refine turn_off (by rfl) ?_
              show _ = _
              rfl
            case r1o26 =>
              intro w1 hG
              intro v22 h22
              change _ = _ at h22
              subst h22
              intro v25 h25
              change _ = _ at h25
              subst h25
              refine turn_off (by rfl) ?_
              show _ = _
              rfl
            case r1o27 =>
              intro w1 hG
              intro v22 h22
              change _ = _ at h22
              subst h22
              intro v26 h26
              change _ = _ at h26
              subst h26
              refine turn_off (by rfl) ?_
              show _ = _
              rfl
            case r1o28 =>
              intro w1 hG
              intro v22 h22
              change _ = _ at h22
              subst h22
              intro v24 h24
              change _ = _ at h24
              subst h24
              intro v27 h27
              change _ = _ at h27
              subst h27
              refine turn_off (by rfl) ?_
              show _ = _
              rfl
            case r1o29 =>
              intro w1 hG
              intro v22 h22
              change _ = _ at h22
              subst h22
              intro v28 h28
              change _ = _ at h28
              subst h28
              refine turn_on (by rfl) ?_
              intro K hK
              simp only [gv2]
              go_simp
              refine hK _ _ ⟨rfl, Kept.refl _, ?_⟩
              show _ = _
              simp only [gv1]
              rfl
          intro w1 hG
          intro v0 h0
          change _ = _ at h0
          subst h0
          intro v1 h1
          change _ = _ at h1
          subst h1
          intro v2 h2
          change _ = _ at h2
          subst h2
          intro v3 h3
          change _ = _ at h3
          subst h3
          intro v4 h4
          change _ = _ at h4
          subst h4
          intro v5 h5
          change _ = _ at h5
          subst h5
          intro v6 h6
          change _ = _ at h6
          subst h6
          intro v7 h7
          change _ = _ at h7
          subst h7
          intro v8 h8
          change _ = _ at h8
          subst h8
          intro v9 h9
          change _ = _ at h9
          subst h9
          intro v10 h10
          change _ = _ at h10
          subst h10
          intro v11 h11
          change _ = _ at h11
          subst h11
          intro v12 h12
          change _ = _ at h12
          subst h12
          intro v13 h13
          change _ = _ at h13
          subst h13
          intro v14 h14
          change _ = _ at h14
          subst h14
          intro v15 h15
          change _ = _ at h15
          subst h15
          intro v16 h16
          change _ = _ at h16
          subst h16
          intro v17 h17
          change _ = _ at h17
          subst h17
          intro v18 h18
          change _ = _ at h18
          subst h18
          intro v19 h19
          change _ = _ at h19
          subst h19
          intro v20 h20
          change _ = _ at h20
          subst h20
          intro v21 h21
          change _ = _ at h21
          subst h21
          intro v22 h22
          change _ = _ at h22
          subst h22
          intro v23 h23
          change _ = _ at h23
          subst h23
          intro v24 h24
          change _ = _ at h24
          subst h24
          intro v25 h25
          change _ = _ at h25
          subst h25
          intro v26 h26
          change _ = _ at h26
          subst h26
          intro v27 h27
          change _ = _ at h27
          subst h27
          intro v28 h28
          change _ = _ at h28
          subst h28
          intro v29 h29
          change _ = _ at h29
          subst h29
          simp only [Given, gv2]
          have G5 := Lib.hid (RdW.below G4.out.drew hG)
          have HRES : Hid (hdR J.n X slot = none) := by show _ = _; rw [HN.out, HKN.out]; rfl
          obtain ⟨z0, z1, z2, z3⟩ := cells4 G5.out.res
          have zf : ∀ i, w1.frozen? ⟨hb, i, none⟩ = false := fun i => frozen_of_row w1 hb i _ _ G5.out.res
          go_wp2_with fail
          change bodyPost _ _ _ _ _ (setsR w1 hb [(0, .int .u64 0), (1, .int .u64 0), (2, .int .u64 0), (3, .int .i64 0)])
          obtain ⟨hrow, hri, htn⟩ := G5.out.fin [(0, .int .u64 0), (1, .int .u64 0), (2, .int .u64 0), (3, .int .i64 0)]
          generalize setsR w1 hb [(0, .int .u64 0), (1, .int .u64 0), (2, .int .u64 0), (3, .int .i64 0)] = wf at *
          rw [fold4] at hrow
          clear z0 z1 z2 z3 zf
          obtain ⟨z0, z1, z2, z3⟩ := cells4 hrow
          refine bodyPost_ret (v := .tuple #[.agg #[.int .u64 0, .int .u64 0, .int .u64 0, .int .i64 0], .int .i64 20]) (by simp [results, Try.results42, go_sem, z0, z1, z2, z3]) rfl ?_
          rw [HRES.out]
          exact ⟨rfl, hri, htn⟩
        have mm : (mg != 1196312914) = false := by simpa using hm
        by_cases hs : sl = slot
        rotate_left
        · have ss : (sl != (slot : Int)) = true := by simpa using hs
          have HKN : Hid (hdK J.n B slot = false) := by show _ = _; rw [HK.out, decide_eq_false (show ¬ sl = slot from hs)]; simp
          clear HK
          refine' reg_free (G := Kept) (pickF [eqV _, eqV _, eqV _, eqV _, eqV _, eqV _, eqV _, eqV _, eqV _, eqV _, eqV _, eqV _, eqV _, eqV _, eqV _, eqV _, eqV _, eqV _, eqV _, eqV _, eqV _, eqV _, eqV _, eqV _, eqV _, eqV _, eqV _, eqV _, eqV _, eqV _]) [70, 71, 72, 73, 74, 75, 76, 77, 78, 79, 80, 81, 82, 83, 84, 85, 86, 87, 88, 89, 90, 91, 92, 93, 94, 95, 96, 97, 98, 99] [[], [0], [1], [2], [2, 3], [2, 4], [2], [2, 6], [2, 5, 7], [2, 8], [9], [10], [10, 11], [10, 12], [10, 13], [14], [15], [15, 16], [15], [15, 18], [15, 17, 19], [15, 20], [21], [22], [22, 23], [22], [22, 25], [22, 26], [22, 24, 27], [22, 28]] [0, 1, 2, 3, 4, 5, 6, 7, 8, 9, 10, 11, 12, 13, 14, 15, 16, 17, 18, 19, 20, 21, 22, 23, 24, 25, 26, 27, 28, 29] (by kernel_rfl) Kept.refl Kept.trans (pick_stays ⟨eqV_stays _, eqV_stays _, eqV_stays _, eqV_stays _, eqV_stays _, eqV_stays _, eqV_stays _, eqV_stays _, eqV_stays _, eqV_stays _, eqV_stays _, eqV_stays _, eqV_stays _, eqV_stays _, eqV_stays _, eqV_stays _, eqV_stays _, eqV_stays _, eqV_stays _, eqV_stays _, eqV_stays _, eqV_stays _, eqV_stays _, eqV_stays _, eqV_stays _, eqV_stays _, eqV_stays _, eqV_stays _, eqV_stays _, eqV_stays _, trivial⟩) 102 rfl (by kernel_rfl) (by kernel_rfl) rfl rfl ?r2obl ?r2fin
          case r2obl =>
            refine And.intro ?r2o0 (And.intro ?r2o1 (And.intro ?r2o2 (And.intro ?r2o3 (And.intro ?r2o4 (And.intro ?r2o5 (And.intro ?r2o6 (And.intro ?r2o7 (And.intro ?r2o8 (And.intro ?r2o9 (And.intro ?r2o10 (And.intro ?r2o11 (And.intro ?r2o12 (And.intro ?r2o13 (And.intro ?r2o14 (And.intro ?r2o15 (And.intro ?r2o16 (And.intro ?r2o17 (And.intro ?r2o18 (And.intro ?r2o19 (And.intro ?r2o20 (And.intro ?r2o21 (And.intro ?r2o22 (And.intro ?r2o23 (And.intro ?r2o24 (And.intro ?r2o25 (And.intro ?r2o26 (And.intro ?r2o27 (And.intro ?r2o28 (And.intro ?r2o29 (True.intro))))))))))))))))))))))))))))))
            case r2o0 =>
              intro w1 hG
              refine turn_on (by rfl) ?_
              intro K hK
              go_simp
              refine hK _ _ ⟨rfl, Kept.refl _, ?_⟩
              show _ = _
              simp only [gv1]
              rfl
            case r2o1 =>
              intro w1 hG
              intro v0 h0
              change _ = _ at h0
              subst h0
              refine turn_on (by rfl) ?_
              intro K hK
              simp only [gv2]
              go_simp
              refine hK _ _ ⟨rfl, Kept.refl _, ?_⟩
              show _ = _
              simp only [gv1]
              rfl
            case r2o2 =>
              intro w1 hG
              intro v1 h1
              change _ = _ at h1
              subst h1
              refine turn_on (by rfl) ?_
              intro K hK
              simp only [gv2]
              go_simp
              refine hK _ _ ⟨rfl, Kept.refl _, ?_⟩
              show _ = _
              simp only [gv1]
              rfl
            case r2o3 =>
              intro w1 hG
              intro v2 h2
              change _ = _ at h2
              subst h2
              refine turn_on (by rfl) ?_
              intro K hK
              simp only [gv2]
              go_simp
              refine hK _ _ ⟨rfl, Kept.refl _, ?_⟩
              show _ = _
              simp only [gv1]
              rfl
            case r2o4 =>
              intro w1 hG
              intro v2 h2
              change _ = _ at h2
              subst h2
              intro v3 h3
              change _ = _ at h3
              subst h3
              refine turn_on (by rfl) ?_
              intro K hK
              simp only [gv2]
              obtain ⟨q0, q1, q2, q3⟩ := cells4 (row_keep (w := w4.drew) HD4.out hG)
              go_simp
              refine hK _ _ ⟨rfl, Kept.refl _, ?_⟩
              show _ = _
              simp only [gv1]
              rfl
            case r2o5 =>
              intro w1 hG
              intro v2 h2
              change _ = _ at h2
              subst h2
              intro v4 h4
              change _ = _ at h4
              subst h4
              refine turn_on (by rfl) ?_
              intro K hK
              simp only [gv2]
              go_simp
              refine hK _ _ ⟨rfl, Kept.refl _, ?_⟩
              show _ = _
              simp only [gv1]
              rfl
            case r2o6 =>
              intro w1 hG
              intro v2 h2
              change _ = _ at h2
              subst h2
              refine turn_on (by rfl) ?_
              intro K hK
              simp only [gv2]
              go_simp
              refine hK _ _ ⟨rfl, Kept.refl _, ?_⟩
              show _ = _
              simp only [gv1]
              rfl
            case r2o7 =>
              intro w1 hG
              intro v2 h2
              change _ = _ at h2
              subst h2
              intro v6 h6
              change _ = _ at h6
              subst h6
              refine turn_on (by rfl) ?_
              intro K hK
              simp only [gv2]
              go_simp
              refine hK _ _ ⟨rfl, Kept.refl _, ?_⟩
              show _ = _
              simp only [gv1]
              rfl
            case r2o8 =>
              intro w1 hG
              intro v2 h2
              change _ = _ at h2
              subst h2
              intro v5 h5
              change _ = _ at h5
              subst h5
              intro v7 h7
              change _ = _ at h7
              subst h7
              refine turn_on (by rfl) ?_
              intro K hK
              simp only [gv2]
              go_simp
              refine hK _ _ ⟨rfl, Kept.refl _, ?_⟩
              show _ = _
              simp only [gv1]
              rfl
            case r2o9 =>
              intro w1 hG
              intro v2 h2
              change _ = _ at h2
              subst h2
              intro v8 h8
              change _ = _ at h8
              subst h8
              refine turn_on (by rfl) ?_
              intro K hK
              simp only [gv2]
              go_simp
              refine hK _ _ ⟨rfl, Kept.refl _, ?_⟩
              show _ = _
              simp only [gv1]
              rfl
            case r2o10 =>
              intro w1 hG
              intro v9 h9
              change _ = _ at h9
              subst h9
              refine turn_on (by rfl) ?_
              intro K hK
              simp only [gv2]
              go_simp
              refine hK _ _ ⟨rfl, Kept.refl _, ?_⟩
              show _ = _
              simp only [gv1]
              rfl
            case r2o11 =>
              intro w1 hG
              intro v10 h10
              change _ = _ at h10
              subst h10
              refine turn_off (by rfl) ?_
              show _ = _
              rfl
            case r2o12 =>
              intro w1 hG
              intro v10 h10
              change _ = _ at h10
              subst h10
              intro v11 h11
              change _ = _ at h11
              subst h11
              refine turn_off (by rfl) ?_
              show _ = _
              rfl
            case r2o13 =>
              intro w1 hG
              intro v10 h10
              change _ = _ at h10
              subst h10
              intro v12 h12
              change _ = _ at h12
              subst h12
              refine turn_off (by rfl) ?_
              show _ = _
              rfl
            case r2o14 =>
              intro w1 hG
              intro v10 h10
              change _ = _ at h10
              subst h10
              intro v13 h13
              change _ = _ at h13
              subst h13
              refine turn_on (by rfl) ?_
              intro K hK
              simp only [gv2]
              go_simp
              refine hK _ _ ⟨rfl, Kept.refl _, ?_⟩
              show _ = _
              simp only [gv1]
              rfl
            case r2o15 =>
              intro w1 hG
              intro v14 h14
              change _ = _ at h14
              subst h14
              refine turn_on (by rfl) ?_
              intro K hK
              simp only [gv2]
              go_simp
              refine hK _ _ ⟨rfl, Kept.refl _, ?_⟩
              show _ = _
              simp only [gv1]
              rfl
            case r2o16 =>
              intro w1 hG
              intro v15 h15
              change _ = _ at h15
              subst h15
              refine turn_off (by rfl) ?_
              show _ = _
              rfl
            case r2o17 =>
              intro w1 hG
              intro v15 h15
              change _ = _ at h15
              subst h15
              intro v16 h16
              change _ = _ at h16
              subst h16
              refine turn_off (by rfl) ?_
              show _ = _
              rfl
            case r2o18 =>
              intro w1 hG
              intro v15 h15
              change _ = _ at h15
              subst h15
              refine turn_off (by rfl) ?_
              show _ = _
              rfl
            case r2o19 =>
              intro w1 hG
              intro v15 h15
              change _ = _ at h15
              subst h15
              intro v18 h18
              change _ = _ at h18
              subst h18
              refine turn_off (by rfl) ?_
              show _ = _
              rfl
            case r2o20 =>
              intro w1 hG
              intro v15 h15
              change _ = _ at h15
              subst h15
              intro v17 h17
              change _ = _ at h17
              subst h17
              intro v19 h19
              change _ = _ at h19
              subst h19
              refine turn_off (by rfl) ?_
              show _ = _
              rfl
            case r2o21 =>
              intro w1 hG
              intro v15 h15
              change _ = _ at h15
              subst h15
              intro v20 h20
              change _ = _ at h20
              subst h20
              refine turn_on (by rfl) ?_
              intro K hK
              simp only [gv2]
              go_simp
              refine hK _ _ ⟨rfl, Kept.refl _, ?_⟩
              show _ = _
              simp only [gv1]
              rfl
            case r2o22 =>
              intro w1 hG
              intro v21 h21
              change _ = _ at h21
              subst h21
              refine turn_on (by rfl) ?_
              intro K hK
              simp only [gv2]
              go_simp
              refine hK _ _ ⟨rfl, Kept.refl _, ?_⟩
              show _ = _
              simp only [gv1]
              rfl
            case r2o23 =>
              intro w1 hG
              intro v22 h22
              change _ = _ at h22
              subst h22
              refine turn_off (by rfl) ?_
              show _ = _
              rfl
            case r2o24 =>
              intro w1 hG
              intro v22 h22
              change _ = _ at h22
              subst h22
              intro v23 h23
              change _ = _ at h23
              subst h23
              refine turn_off (by rfl) ?_
              show _ = _
              rfl
            case r2o25 =>
              intro w1 hG
              intro v22 h22
              change _ = _ at h22
              subst h22
              refine turn_off (by rfl) ?_
              show _ = _
              rfl
            case r2o26 =>
              intro w1 hG
              intro v22 h22
              change _ = _ at h22
              subst h22
              intro v25 h25
              change _ = _ at h25
              subst h25
              refine turn_off (by rfl) ?_
              show _ = _
              rfl
            case r2o27 =>
              intro w1 hG
              intro v22 h22
              change _ = _ at h22
              subst h22
              intro v26 h26
              change _ = _ at h26
              subst h26
              refine turn_off (by rfl) ?_
              show _ = _
              rfl
            case r2o28 =>
              intro w1 hG
              intro v22 h22
              change _ = _ at h22
              subst h22
              intro v24 h24
              change _ = _ at h24
              subst h24
              intro v27 h27
              change _ = _ at h27
              subst h27
              refine turn_off (by rfl) ?_
              show _ = _
              rfl
            case r2o29 =>
              intro w1 hG
              intro v22 h22
              change _ = _ at h22
              subst h22
              intro v28 h28
              change _ = _ at h28
              subst h28
              refine turn_on (by rfl) ?_
              intro K hK
              simp only [gv2]
              go_simp
              refine hK _ _ ⟨rfl, Kept.refl _, ?_⟩
              show _ = _
              simp only [gv1]
              rfl
          intro w1 hG
          intro v0 h0
          change _ = _ at h0
          subst h0
          intro v1 h1
          change _ = _ at h1
          subst h1
          intro v2 h2
          change _ = _ at h2
          subst h2
          intro v3 h3
          change _ = _ at h3
          subst h3
          intro v4 h4
          change _ = _ at h4
          subst h4
          intro v5 h5
          change _ = _ at h5
          subst h5
          intro v6 h6
          change _ = _ at h6
          subst h6
          intro v7 h7
          change _ = _ at h7
          subst h7
          intro v8 h8
          change _ = _ at h8
          subst h8
          intro v9 h9
          change _ = _ at h9
          subst h9
          intro v10 h10
          change _ = _ at h10
          subst h10
          intro v11 h11
          change _ = _ at h11
          subst h11
          intro v12 h12
          change _ = _ at h12
          subst h12
          intro v13 h13
          change _ = _ at h13
          subst h13
          intro v14 h14
          change _ = _ at h14
          subst h14
          intro v15 h15
          change _ = _ at h15
          subst h15
          intro v16 h16
          change _ = _ at h16
          subst h16
          intro v17 h17
          change _ = _ at h17
          subst h17
          intro v18 h18
          change _ = _ at h18
          subst h18
          intro v19 h19
          change _ = _ at h19
          subst h19
          intro v20 h20
          change _ = _ at h20
          subst h20
          intro v21 h21
          change _ = _ at h21
          subst h21
          intro v22 h22
          change _ = _ at h22
          subst h22
          intro v23 h23
          change _ = _ at h23
          subst h23
          intro v24 h24
          change _ = _ at h24
          subst h24
          intro v25 h25
          change _ = _ at h25
          subst h25
          intro v26 h26
          change _ = _ at h26
          subst h26
          intro v27 h27
          change _ = _ at h27
          subst h27
          intro v28 h28
          change _ = _ at h28
          subst h28
          intro v29 h29
          change _ = _ at h29
          subst h29
          simp only [Given, gv2]
          have G5 := Lib.hid (RdW.below G4.out.drew hG)
          have HRES : Hid (hdR J.n X slot = none) := by show _ = _; rw [HN.out, HKN.out]; rfl
          obtain ⟨z0, z1, z2, z3⟩ := cells4 G5.out.res
          have zf : ∀ i, w1.frozen? ⟨hb, i, none⟩ = false := fun i => frozen_of_row w1 hb i _ _ G5.out.res
          go_wp2_with fail
          change bodyPost _ _ _ _ _ (setsR w1 hb [(0, .int .u64 0), (1, .int .u64 0), (2, .int .u64 0), (3, .int .i64 0)])
          obtain ⟨hrow, hri, htn⟩ := G5.out.fin [(0, .int .u64 0), (1, .int .u64 0), (2, .int .u64 0), (3, .int .i64 0)]
          generalize setsR w1 hb [(0, .int .u64 0), (1, .int .u64 0), (2, .int .u64 0), (3, .int .i64 0)] = wf at *
          rw [fold4] at hrow
          clear z0 z1 z2 z3 zf
          obtain ⟨z0, z1, z2, z3⟩ := cells4 hrow
          refine bodyPost_ret (v := .tuple #[.agg #[.int .u64 0, .int .u64 0, .int .u64 0, .int .i64 0], .int .i64 20]) (by simp [results, Try.results42, go_sem, z0, z1, z2, z3]) rfl ?_
          rw [HRES.out]
          exact ⟨rfl, hri, htn⟩
        have ss : (sl != (slot : Int)) = false := by simpa using hs
        by_cases hf : 1 ≤ v1
        rotate_left
        · have ff : decide (v1 < 1) = true := decide_eq_true (by omega)
          have HKN : Hid (hdK J.n B slot = false) := by show _ = _; rw [HK.out, decide_eq_false (show ¬ 1 ≤ v1 from hf)]; simp
          clear HK
          refine' reg_free (G := Kept) (pickF [eqV _, eqV _, eqV _, eqV _, eqV _, eqV _, eqV _, eqV _, eqV _, eqV _, eqV _, eqV _, eqV _, eqV _, eqV _, eqV _, eqV _, eqV _, eqV _, eqV _, eqV _, eqV _, eqV _, eqV _, eqV _, eqV _, eqV _, eqV _, eqV _, eqV _]) [70, 71, 72, 73, 74, 75, 76, 77, 78, 79, 80, 81, 82, 83, 84, 85, 86, 87, 88, 89, 90, 91, 92, 93, 94, 95, 96, 97, 98, 99] [[], [0], [1], [2], [2, 3], [2, 4], [2], [2, 6], [2, 5, 7], [2, 8], [9], [10], [10, 11], [10, 12], [10, 13], [14], [15], [15, 16], [15], [15, 18], [15, 17, 19], [15, 20], [21], [22], [22, 23], [22], [22, 25], [22, 26], [22, 24, 27], [22, 28]] [0, 1, 2, 3, 4, 5, 6, 7, 8, 9, 10, 11, 12, 13, 14, 15, 16, 17, 18, 19, 20, 21, 22, 23, 24, 25, 26, 27, 28, 29] (by kernel_rfl) Kept.refl Kept.trans (pick_stays ⟨eqV_stays _, eqV_stays _, eqV_stays _, eqV_stays _, eqV_stays _, eqV_stays _, eqV_stays _, eqV_stays _, eqV_stays _, eqV_stays _, eqV_stays _, eqV_stays _, eqV_stays _, eqV_stays _, eqV_stays _, eqV_stays _, eqV_stays _, eqV_stays _, eqV_stays _, eqV_stays _, eqV_stays _, eqV_stays _, eqV_stays _, eqV_stays _, eqV_stays _, eqV_stays _, eqV_stays _, eqV_stays _, eqV_stays _, eqV_stays _, trivial⟩) 102 rfl (by kernel_rfl) (by kernel_rfl) rfl rfl ?r3obl ?r3fin
          case r3obl =>
            refine And.intro ?r3o0 (And.intro ?r3o1 (And.intro ?r3o2 (And.intro ?r3o3 (And.intro ?r3o4 (And.intro ?r3o5 (And.intro ?r3o6 (And.intro ?r3o7 (And.intro ?r3o8 (And.intro ?r3o9 (And.intro ?r3o10 (And.intro ?r3o11 (And.intro ?r3o12 (And.intro ?r3o13 (And.intro ?r3o14 (And.intro ?r3o15 (And.intro ?r3o16 (And.intro ?r3o17 (And.intro ?r3o18 (And.intro ?r3o19 (And.intro ?r3o20 (And.intro ?r3o21 (And.intro ?r3o22 (And.intro ?r3o23 (And.intro ?r3o24 (And.intro ?r3o25 (And.intro ?r3o26 (And.intro ?r3o27 (And.intro ?r3o28 (And.intro ?r3o29 (True.intro))))))))))))))))))))))))))))))
            case r3o0 =>
              intro w1 hG
              refine turn_on (by rfl) ?_
              intro K hK
              go_simp
              refine hK _ _ ⟨rfl, Kept.refl _, ?_⟩
              show _ = _
              simp only [gv1]
              rfl
            case r3o1 =>
              intro w1 hG
              intro v0 h0
              change _ = _ at h0
              subst h0
              refine turn_on (by rfl) ?_
              intro K hK
              simp only [gv2]
              go_simp
              refine hK _ _ ⟨rfl, Kept.refl _, ?_⟩
              show _ = _
              simp only [gv1]
              rfl
            case r3o2 =>
              intro w1 hG
              intro v1 h1
              change _ = _ at h1
              subst h1
              refine turn_on (by rfl) ?_
              intro K hK
              simp only [gv2]
              go_simp
              refine hK _ _ ⟨rfl, Kept.refl _, ?_⟩
              show _ = _
              simp only [gv1]
              rfl
            case r3o3 =>
              intro w1 hG
              intro v2 h2
              change _ = _ at h2
              subst h2
              refine turn_on (by rfl) ?_
              intro K hK
              simp only [gv2]
              go_simp
              refine hK _ _ ⟨rfl, Kept.refl _, ?_⟩
              show _ = _
              simp only [gv1]
              rfl
            case r3o4 =>
              intro w1 hG
              intro v2 h2
              change _ = _ at h2
              subst h2
              intro v3 h3
              change _ = _ at h3
              subst h3
              refine turn_on (by rfl) ?_
              intro K hK
              simp only [gv2]
              obtain ⟨q0, q1, q2, q3⟩ := cells4 (row_keep (w := w4.drew) HD4.out hG)
              go_simp
              refine hK _ _ ⟨rfl, Kept.refl _, ?_⟩
              show _ = _
              simp only [gv1]
              rfl
            case r3o5 =>
              intro w1 hG
              intro v2 h2
              change _ = _ at h2
              subst h2
              intro v4 h4
              change _ = _ at h4
              subst h4
              refine turn_on (by rfl) ?_
              intro K hK
              simp only [gv2]
              go_simp
              refine hK _ _ ⟨rfl, Kept.refl _, ?_⟩
              show _ = _
              simp only [gv1]
              rfl
            case r3o6 =>
              intro w1 hG
              intro v2 h2
              change _ = _ at h2
              subst h2
              refine turn_on (by rfl) ?_
              intro K hK
              simp only [gv2]
              go_simp
              refine hK _ _ ⟨rfl, Kept.refl _, ?_⟩
              show _ = _
              simp only [gv1]
              rfl
            case r3o7 =>
              intro w1 hG
              intro v2 h2
              change _ = _ at h2
              subst h2
              intro v6 h6
              change _ = _ at h6
              subst h6
              refine turn_on (by rfl) ?_
              intro K hK
              simp only [gv2]
              go_simp
              refine hK _ _ ⟨rfl, Kept.refl _, ?_⟩
              show _ = _
              simp only [gv1]
              rfl
            case r3o8 =>
              intro w1 hG
              intro v2 h2
              change _ = _ at h2
              subst h2
              intro v5 h5
              change _ = _ at h5
              subst h5
              intro v7 h7
              change _ = _ at h7
              subst h7
              refine turn_on (by rfl) ?_
              intro K hK
              simp only [gv2]
              go_simp
              refine hK _ _ ⟨rfl, Kept.refl _, ?_⟩
              show _ = _
              simp only [gv1]
              rfl
            case r3o9 =>
              intro w1 hG
              intro v2 h2
              change _ = _ at h2
              subst h2
              intro v8 h8
              change _ = _ at h8
              subst h8
              refine turn_on (by rfl) ?_
              intro K hK
              simp only [gv2]
              go_simp
              refine hK _ _ ⟨rfl, Kept.refl _, ?_⟩
              show _ = _
              simp only [gv1]
              rfl
            case r3o10 =>
              intro w1 hG
              intro v9 h9
              change _ = _ at h9
              subst h9
              refine turn_on (by rfl) ?_
              intro K hK
              simp only [gv2]
              go_simp
              refine hK _ _ ⟨rfl, Kept.refl _, ?_⟩
              show _ = _
              simp only [gv1]
              rfl
            case r3o11 =>
              intro w1 hG
              intro v10 h10
              change _ = _ at h10
              subst h10
              refine turn_on (by rfl) ?_
              intro K hK
              simp only [gv2]
              go_simp
              refine hK _ _ ⟨rfl, Kept.refl _, ?_⟩
              show _ = _
              simp only [gv1]
              rfl
            case r3o12 =>
              intro w1 hG
              intro v10 h10
              change _ = _ at h10
              subst h10
              intro v11 h11
              change _ = _ at h11
              subst h11
              refine turn_on (by rfl) ?_
              intro K hK
              simp only [gv2]
              obtain ⟨q0, q1, q2, q3⟩ := cells4 (row_keep (w := w4.drew) HD4.out hG)
              go_simp
              refine hK _ _ ⟨rfl, Kept.refl _, ?_⟩
              show _ = _
              simp only [gv1]
              rfl
            case r3o13 =>
              intro w1 hG
              intro v10 h10
              change _ = _ at h10
              subst h10
              intro v12 h12
              change _ = _ at h12
              subst h12
              refine turn_on (by rfl) ?_
              intro K hK
              simp only [gv2]
              go_simp
              refine hK _ _ ⟨rfl, Kept.refl _, ?_⟩
              show _ = _
              simp only [gv1]
              rfl
            case r3o14 =>
              intro w1 hG
              intro v10 h10
              change _ = _ at h10
              subst h10
              intro v13 h13
              change _ = _ at h13
              subst h13
              refine turn_on (by rfl) ?_
              intro K hK
              simp only [gv2]
              go_simp
              refine hK _ _ ⟨rfl, Kept.refl _, ?_⟩
              show _ = _
              simp only [gv1]
              rfl
            case r3o15 =>
              intro w1 hG
              intro v14 h14
              change _ = _ at h14
              subst h14
              refine turn_on (by rfl) ?_
              intro K hK
              simp only [gv2]
              go_simp
              refine hK _ _ ⟨rfl, Kept.refl _, ?_⟩
              show _ = _
              simp only [gv1]
              rfl
            case r3o16 =>
              intro w1 hG
              intro v15 h15
              change _ = _ at h15
              subst h15
              refine turn_off (by rfl) ?_
              show _ = _
              rfl
            case r3o17 =>
              intro w1 hG
              intro v15 h15
              change _ = _ at h15
              subst h15
              intro v16 h16
              change _ = _ at h16
              subst h16
              refine turn_off (by rfl) ?_
              show _ = _
              rfl
            case r3o18 =>
              intro w1 hG
              intro v15 h15
              change _ = _ at h15
              subst h15
              refine turn_off (by rfl) ?_
              show _ = _
              rfl
            case r3o19 =>
              intro w1 hG
              intro v15 h15
              change _ = _ at h15
              subst h15
              intro v18 h18
              change _ = _ at h18
              subst h18
              refine turn_off (by rfl) ?_
              show _ = _
              rfl
            case r3o20 =>
              intro w1 hG
              intro v15 h15
              change _ = _ at h15
              subst h15
              intro v17 h17
              change _ = _ at h17
              subst h17
              intro v19 h19
              change _ = _ at h19
              subst h19
              refine turn_off (by rfl) ?_
              show _ = _
              rfl
            case r3o21 =>
              intro w1 hG
              intro v15 h15
              change _ = _ at h15
              subst h15
              intro v20 h20
              change _ = _ at h20
              subst h20
              refine turn_on (by rfl) ?_
              intro K hK
              simp only [gv2]
              go_simp
              refine hK _ _ ⟨rfl, Kept.refl _, ?_⟩
              show _ = _
              simp only [gv1]
              rfl
            case r3o22 =>
              intro w1 hG
              intro v21 h21
              change _ = _ at h21
              subst h21
              refine turn_on (by rfl) ?_
              intro K hK
              simp only [gv2]
              go_simp
              refine hK _ _ ⟨rfl, Kept.refl _, ?_⟩
              show _ = _
              simp only [gv1]
              rfl
            case r3o23 =>
              intro w1 hG
              intro v22 h22
              change _ = _ at h22
              subst h22
              refine turn_off (by rfl) ?_
              show _ = _
              rfl
            case r3o24 =>
              intro w1 hG
              intro v22 h22
              change _ = _ at h22
              subst h22
              intro v23 h23
              change _ = _ at h23
              subst h23
              refine turn_off (by rfl) ?_
              show _ = _
              rfl
            case r3o25 =>
              intro w1 hG
              intro v22 h22
              change _ = _ at h22
              subst h22
              refine turn_off (by rfl) ?_
              show _ = _
              rfl
            case r3o26 =>
              intro w1 hG
              intro v22 h22
              change _ = _ at h22
              subst h22
              intro v25 h25
              change _ = _ at h25
              subst h25
              refine turn_off (by rfl) ?_
              show _ = _
              rfl
            case r3o27 =>
              intro w1 hG
              intro v22 h22
              change _ = _ at h22
              subst h22
              intro v26 h26
              change _ = _ at h26
              subst h26
              refine turn_off (by rfl) ?_
              show _ = _
              rfl
            case r3o28 =>
              intro w1 hG
              intro v22 h22
              change _ = _ at h22
              subst h22
              intro v24 h24
              change _ = _ at h24
              subst h24
              intro v27 h27
              change _ = _ at h27
              subst h27
              refine turn_off (by rfl) ?_
              show _ = _
              rfl
            case r3o29 =>
              intro w1 hG
              intro v22 h22
              change _ = _ at h22
              subst h22
              intro v28 h28
              change _ = _ at h28
              subst h28
              refine turn_on (by rfl) ?_
              intro K hK
              simp only [gv2]
              go_simp
              refine hK _ _ ⟨rfl, Kept.refl _, ?_⟩
              show _ = _
              simp only [gv1]
              rfl
          intro w1 hG
          intro v0 h0
          change _ = _ at h0
          subst h0
          intro v1 h1
          change _ = _ at h1
          subst h1
          intro v2 h2
          change _ = _ at h2
          subst h2
          intro v3 h3
          change _ = _ at h3
          subst h3
          intro v4 h4
          change _ = _ at h4
          subst h4
          intro v5 h5
          change _ = _ at h5
          subst h5
          intro v6 h6
          change _ = _ at h6
          subst h6
          intro v7 h7
          change _ = _ at h7
          subst h7
          intro v8 h8
          change _ = _ at h8
          subst h8
          intro v9 h9
          change _ = _ at h9
          subst h9
          intro v10 h10
          change _ = _ at h10
          subst h10
          intro v11 h11
          change _ = _ at h11
          subst h11
          intro v12 h12
          change _ = _ at h12
          subst h12
          intro v13 h13
          change _ = _ at h13
          subst h13
          intro v14 h14
          change _ = _ at h14
          subst h14
          intro v15 h15
          change _ = _ at h15
          subst h15
          intro v16 h16
          change _ = _ at h16
          subst h16
          intro v17 h17
          change _ = _ at h17
          subst h17
          intro v18 h18
          change _ = _ at h18
          subst h18
          intro v19 h19
          change _ = _ at h19
          subst h19
          intro v20 h20
          change _ = _ at h20
          subst h20
          intro v21 h21
          change _ = _ at h21
          subst h21
          intro v22 h22
          change _ = _ at h22
          subst h22
          intro v23 h23
          change _ = _ at h23
          subst h23
          intro v24 h24
          change _ = _ at h24
          subst h24
          intro v25 h25
          change _ = _ at h25
          subst h25
          intro v26 h26
          change _ = _ at h26
          subst h26
          intro v27 h27
          change _ = _ at h27
          subst h27
          intro v28 h28
          change _ = _ at h28
          subst h28
          intro v29 h29
          change _ = _ at h29
          subst h29
          simp only [Given, gv2]
          have G5 := Lib.hid (RdW.below G4.out.drew hG)
          have HRES : Hid (hdR J.n X slot = none) := by show _ = _; rw [HN.out, HKN.out]; rfl
          obtain ⟨z0, z1, z2, z3⟩ := cells4 G5.out.res
          have zf : ∀ i, w1.frozen? ⟨hb, i, none⟩ = false := fun i => frozen_of_row w1 hb i _ _ G5.out.res
          go_wp2_with fail
          change bodyPost _ _ _ _ _ (setsR w1 hb [(0, .int .u64 0), (1, .int .u64 0), (2, .int .u64 0), (3, .int .i64 0)])
          obtain ⟨hrow, hri, htn⟩ := G5.out.fin [(0, .int .u64 0), (1, .int .u64 0), (2, .int .u64 0), (3, .int .i64 0)]
          generalize setsR w1 hb [(0, .int .u64 0), (1, .int .u64 0), (2, .int .u64 0), (3, .int .i64 0)] = wf at *
          rw [fold4] at hrow
          clear z0 z1 z2 z3 zf
          obtain ⟨z0, z1, z2, z3⟩ := cells4 hrow
          refine bodyPost_ret (v := .tuple #[.agg #[.int .u64 0, .int .u64 0, .int .u64 0, .int .i64 0], .int .i64 20]) (by simp [results, Try.results42, go_sem, z0, z1, z2, z3]) rfl ?_
          rw [HRES.out]
          exact ⟨rfl, hri, htn⟩
        have ff : decide (v1 < 1) = false := decide_eq_false (by omega)
        by_cases hx : v1 ≤ v2
        rotate_left
        · have xx : decide (v2 < v1) = true := decide_eq_true (by omega)
          have HKN : Hid (hdK J.n B slot = false) := by show _ = _; rw [HK.out, decide_eq_false (show ¬ v1 ≤ v2 from hx)]; simp
          clear HK
          refine' reg_free (G := Kept) (pickF [eqV _, eqV _, eqV _, eqV _, eqV _, eqV _, eqV _, eqV _, eqV _, eqV _, eqV _, eqV _, eqV _, eqV _, eqV _, eqV _, eqV _, eqV _, eqV _, eqV _, eqV _, eqV _, eqV _, eqV _, eqV _, eqV _, eqV _, eqV _, eqV _, eqV _]) [70, 71, 72, 73, 74, 75, 76, 77, 78, 79, 80, 81, 82, 83, 84, 85, 86, 87, 88, 89, 90, 91, 92, 93, 94, 95, 96, 97, 98, 99] [[], [0], [1], [2], [2, 3], [2, 4], [2], [2, 6], [2, 5, 7], [2, 8], [9], [10], [10, 11], [10, 12], [10, 13], [14], [15], [15, 16], [15], [15, 18], [15, 17, 19], [15, 20], [21], [22], [22, 23], [22], [22, 25], [22, 26], [22, 24, 27], [22, 28]] [0, 1, 2, 3, 4, 5, 6, 7, 8, 9, 10, 11, 12, 13, 14, 15, 16, 17, 18, 19, 20, 21, 22, 23, 24, 25, 26, 27, 28, 29] (by kernel_rfl) Kept.refl Kept.trans (pick_stays ⟨eqV_stays _, eqV_stays _, eqV_stays _, eqV_stays _, eqV_stays _, eqV_stays _, eqV_stays _, eqV_stays _, eqV_stays _, eqV_stays _, eqV_stays _, eqV_stays _, eqV_stays _, eqV_stays _, eqV_stays _, eqV_stays _, eqV_stays _, eqV_stays _, eqV_stays _, eqV_stays _, eqV_stays _, eqV_stays _, eqV_stays _, eqV_stays _, eqV_stays _, eqV_stays _, eqV_stays _, eqV_stays _, eqV_stays _, eqV_stays _, trivial⟩) 102 rfl (by kernel_rfl) (by kernel_rfl) rfl rfl ?r4obl ?r4fin
          case r4obl =>
            refine And.intro ?r4o0 (And.intro ?r4o1 (And.intro ?r4o2 (And.intro ?r4o3 (And.intro ?r4o4 (And.intro ?r4o5 (And.intro ?r4o6 (And.intro ?r4o7 (And.intro ?r4o8 (And.intro ?r4o9 (And.intro ?r4o10 (And.intro ?r4o11 (And.intro ?r4o12 (And.intro ?r4o13 (And.intro ?r4o14 (And.intro ?r4o15 (And.intro ?r4o16 (And.intro ?r4o17 (And.intro ?r4o18 (And.intro ?r4o19 (And.intro ?r4o20 (And.intro ?r4o21 (And.intro ?r4o22 (And.intro ?r4o23 (And.intro ?r4o24 (And.intro ?r4o25 (And.intro ?r4o26 (And.intro ?r4o27 (And.intro ?r4o28 (And.intro ?r4o29 (True.intro))))))))))))))))))))))))))))))
            case r4o0 =>
              intro w1 hG
              refine turn_on (by rfl) ?_
              intro K hK
              go_simp
              refine hK _ _ ⟨rfl, Kept.refl _, ?_⟩
              show _ = _
              simp only [gv1]
              rfl
            case r4o1 =>
              intro w1 hG
              intro v0 h0
              change _ = _ at h0
              subst h0
              refine turn_on (by rfl) ?_
              intro K hK
              simp only [gv2]
              go_simp
              refine hK _ _ ⟨rfl, Kept.refl _, ?_⟩
              show _ = _
              simp only [gv1]
              rfl
            case r4o2 =>
              intro w1 hG
              intro v1 h1
              change _ = _ at h1
              subst h1
              refine turn_on (by rfl) ?_
              intro K hK
              simp only [gv2]
              go_simp
              refine hK _ _ ⟨rfl, Kept.refl _, ?_⟩
              show _ = _
              simp only [gv1]
              rfl
            case r4o3 =>
              intro w1 hG
              intro v2 h2
              change _ = _ at h2
              subst h2
              refine turn_on (by rfl) ?_
              intro K hK
              simp only [gv2]
              go_simp
              refine hK _ _ ⟨rfl, Kept.refl _, ?_⟩
              show _ = _
              simp only [gv1]
              rfl
            case r4o4 =>
              intro w1 hG
              intro v2 h2
              change _ = _ at h2
              subst h2
              intro v3 h3
              change _ = _ at h3
              subst h3
              refine turn_on (by rfl) ?_
              intro K hK
              simp only [gv2]
              obtain ⟨q0, q1, q2, q3⟩ := cells4 (row_keep (w := w4.drew) HD4.out hG)
              go_simp
              refine hK _ _ ⟨rfl, Kept.refl _, ?_⟩
              show _ = _
              simp only [gv1]
              rfl
            case r4o5 =>
              intro w1 hG
              intro v2 h2
              change _ = _ at h2
              subst h2
              intro v4 h4
              change _ = _ at h4
              subst h4
              refine turn_on (by rfl) ?_
              intro K hK
              simp only [gv2]
              go_simp
              refine hK _ _ ⟨rfl, Kept.refl _, ?_⟩
              show _ = _
              simp only [gv1]
              rfl
            case r4o6 =>
              intro w1 hG
              intro v2 h2
              change _ = _ at h2
              subst h2
              refine turn_on (by rfl) ?_
              intro K hK
              simp only [gv2]
              go_simp
              refine hK _ _ ⟨rfl, Kept.refl _, ?_⟩
              show _ = _
              simp only [gv1]
              rfl
            case r4o7 =>
              intro w1 hG
              intro v2 h2
              change _ = _ at h2
              subst h2
              intro v6 h6
              change _ = _ at h6
              subst h6
              refine turn_on (by rfl) ?_
              intro K hK
              simp only [gv2]
              go_simp
              refine hK _ _ ⟨rfl, Kept.refl _, ?_⟩
              show _ = _
              simp only [gv1]
              rfl
            case r4o8 =>
              intro w1 hG
              intro v2 h2
              change _ = _ at h2
              subst h2
              intro v5 h5
              change _ = _ at h5
              subst h5
              intro v7 h7
              change _ = _ at h7
              subst h7
              refine turn_on (by rfl) ?_
              intro K hK
              simp only [gv2]
              go_simp
              refine hK _ _ ⟨rfl, Kept.refl _, ?_⟩
              show _ = _
              simp only [gv1]
              rfl
            case r4o9 =>
              intro w1 hG
              intro v2 h2
              change _ = _ at h2
              subst h2
              intro v8 h8
              change _ = _ at h8
              subst h8
              refine turn_on (by rfl) ?_
              intro K hK
              simp only [gv2]
              go_simp
              refine hK _ _ ⟨rfl, Kept.refl _, ?_⟩
              show _ = _
              simp only [gv1]
              rfl
            case r4o10 =>
              intro w1 hG
              intro v9 h9
              change _ = _ at h9
              subst h9
              refine turn_on (by rfl) ?_
              intro K hK
              simp only [gv2]
              go_simp
              refine hK _ _ ⟨rfl, Kept.refl _, ?_⟩
              show _ = _
              simp only [gv1]
              rfl
            case r4o11 =>
              intro w1 hG
              intro v10 h10
              change _ = _ at h10
              subst h10
              refine turn_on (by rfl) ?_
              intro K hK
              simp only [gv2]
              go_simp
              refine hK _ _ ⟨rfl, Kept.refl _, ?_⟩
              show _ = _
              simp only [gv1]
              rfl
            case r4o12 =>
              intro w1 hG
              intro v10 h10
              change _ = _ at h10
              subst h10
              intro v11 h11
              change _ = _ at h11
              subst h11
              refine turn_on (by rfl) ?_
              intro K hK
              simp only [gv2]
              obtain ⟨q0, q1, q2, q3⟩ := cells4 (row_keep (w := w4.drew) HD4.out hG)
              go_simp
              refine hK _ _ ⟨rfl, Kept.refl _, ?_⟩
              show _ = _
              simp only [gv1]
              rfl
            case r4o13 =>
              intro w1 hG
              intro v10 h10
              change _ = _ at h10
              subst h10
              intro v12 h12
              change _ = _ at h12
              subst h12
              refine turn_on (by rfl) ?_
              intro K hK
              simp only [gv2]
              go_simp
              refine hK _ _ ⟨rfl, Kept.refl _, ?_⟩
              show _ = _
              simp only [gv1]
              rfl
            case r4o14 =>
              intro w1 hG
              intro v10 h10
              change _ = _ at h10
              subst h10
              intro v13 h13
              change _ = _ at h13
              subst h13
              refine turn_on (by rfl) ?_
              intro K hK
              simp only [gv2]
              go_simp
              refine hK _ _ ⟨rfl, Kept.refl _, ?_⟩
              show _ = _
              simp only [gv1]
              rfl
            case r4o15 =>
              intro w1 hG
              intro v14 h14
              change _ = _ at h14
              subst h14
              refine turn_on (by rfl) ?_
              intro K hK
              simp only [gv2]
              go_simp
              refine hK _ _ ⟨rfl, Kept.refl _, ?_⟩
              show _ = _
              simp only [gv1]
              rfl
            case r4o16 =>
              intro w1 hG
              intro v15 h15
              change _ = _ at h15
              subst h15
              refine turn_on (by rfl) ?_
              intro K hK
              simp only [gv2]
              go_simp
              refine hK _ _ ⟨rfl, Kept.refl _, ?_⟩
              show _ = _
              simp only [gv1]
              rfl
            case r4o17 =>
              intro w1 hG
              intro v15 h15
              change _ = _ at h15
              subst h15
              intro v16 h16
              change _ = _ at h16
              subst h16
              refine turn_on (by rfl) ?_
              intro K hK
              simp only [gv2]
              obtain ⟨q0, q1, q2, q3⟩ := cells4 (row_keep (w := w4.drew) HD4.out hG)
              go_simp
              refine hK _ _ ⟨rfl, Kept.refl _, ?_⟩
              show _ = _
              simp only [gv1]
              rfl
            case r4o18 =>
              intro w1 hG
              intro v15 h15
              change _ = _ at h15
              subst h15
              refine turn_on (by rfl) ?_
              intro K hK
              simp only [gv2]
              go_simp
              refine hK _ _ ⟨rfl, Kept.refl _, ?_⟩
              show _ = _
              simp only [gv1]
              rfl
            case r4o19 =>
              intro w1 hG
              intro v15 h15
              change _ = _ at h15
              subst h15
              intro v18 h18
              change _ = _ at h18
              subst h18
              refine turn_on (by rfl) ?_
              intro K hK
              simp only [gv2]
              obtain ⟨q0, q1, q2, q3⟩ := cells4 (row_keep (w := w4.drew) HD4.out hG)
              go_simp
              refine hK _ _ ⟨rfl, Kept.refl _, ?_⟩
              show _ = _
              simp only [gv1]
              rfl
            case r4o20 =>
              intro w1 hG
              intro v15 h15
              change _ = _ at h15
              subst h15
              intro v17 h17
              change _ = _ at h17
              subst h17
              intro v19 h19
              change _ = _ at h19
              subst h19
              refine turn_on (by rfl) ?_
              intro K hK
              simp only [gv2]
              go_simp
              refine hK _ _ ⟨rfl, Kept.refl _, ?_⟩
              show _ = _
              simp only [gv1]
              rfl
            case r4o21 =>
              intro w1 hG
              intro v15 h15
              change _ = _ at h15
              subst h15
              intro v20 h20
              change _ = _ at h20
              subst h20
              refine turn_on (by rfl) ?_
              intro K hK
              simp only [gv2]
              go_simp
              refine hK _ _ ⟨rfl, Kept.refl _, ?_⟩
              show _ = _
              simp only [gv1]
              rfl
            case r4o22 =>
              intro w1 hG
              intro v21 h21
              change _ = _ at h21
              subst h21
              refine turn_on (by rfl) ?_
              intro K hK
              simp only [gv2]
              go_simp
              refine hK _ _ ⟨rfl, Kept.refl _, ?_⟩
              show _ = _
              simp only [gv1]
              rfl
            case r4o23 =>
              intro w1 hG
              intro v22 h22
              change _ = _ at h22
              subst h22
              refine turn_off (by rfl) ?_
              show _ = _
              rfl
            case r4o24 =>
              intro w1 hG
              intro v22 h22
              change _ = _ at h22
              subst h22
              intro v23 h23
              change _ = _ at h23
              subst h23
              refine turn_off (by rfl) ?_
              show _ = _
              rfl
            case r4o25 =>
              intro w1 hG
              intro v22 h22
              change _ = _ at h22
              subst h22
              refine turn_off (by rfl) ?_
              show _ = _
              rfl
            case r4o26 =>
              intro w1 hG
              intro v22 h22
              change _ = _ at h22
              subst h22
              intro v25 h25
              change _ = _ at h25
              subst h25
              refine turn_off (by rfl) ?_
              show _ = _
              rfl
            case r4o27 =>
              intro w1 hG
              intro v22 h22
              change _ = _ at h22
              subst h22
              intro v26 h26
              change _ = _ at h26
              subst h26
              refine turn_off (by rfl) ?_
              show _ = _
              rfl
            case r4o28 =>
              intro w1 hG
              intro v22 h22
              change _ = _ at h22
              subst h22
              intro v24 h24
              change _ = _ at h24
              subst h24
              intro v27 h27
              change _ = _ at h27
              subst h27
              refine turn_off (by rfl) ?_
              show _ = _
              rfl
            case r4o29 =>
              intro w1 hG
              intro v22 h22
              change _ = _ at h22
              subst h22
              intro v28 h28
              change _ = _ at h28
              subst h28
              refine turn_on (by rfl) ?_
              intro K hK
              simp only [gv2]
              go_simp
              refine hK _ _ ⟨rfl, Kept.refl _, ?_⟩
              show _ = _
              simp only [gv1]
              rfl
          intro w1 hG
          intro v0 h0
          change _ = _ at h0
          subst h0
          intro v1 h1
          change _ = _ at h1
          subst h1
          intro v2 h2
          change _ = _ at h2
          subst h2
          intro v3 h3
          change _ = _ at h3
          subst h3
          intro v4 h4
          change _ = _ at h4
          subst h4
          intro v5 h5
          change _ = _ at h5
          subst h5
          intro v6 h6
          change _ = _ at h6
          subst h6
          intro v7 h7
          change _ = _ at h7
          subst h7
          intro v8 h8
          change _ = _ at h8
          subst h8
          intro v9 h9
          change _ = _ at h9
          subst h9
          intro v10 h10
          change _ = _ at h10
          subst h10
          intro v11 h11
          change _ = _ at h11
          subst h11
          intro v12 h12
          change _ = _ at h12
          subst h12
          intro v13 h13
          change _ = _ at h13
          subst h13
          intro v14 h14
          change _ = _ at h14
          subst h14
          intro v15 h15
          change _ = _ at h15
          subst h15
          intro v16 h16
          change _ = _ at h16
          subst h16
          intro v17 h17
          change _ = _ at h17
          subst h17
          intro v18 h18
          change _ = _ at h18
          subst h18
          intro v19 h19
          change _ = _ at h19
          subst h19
          intro v20 h20
          change _ = _ at h20
          subst h20
          intro v21 h21
          change _ = _ at h21
          subst h21
          intro v22 h22
          change _ = _ at h22
          subst h22
          intro v23 h23
          change _ = _ at h23
          subst h23
          intro v24 h24
          change _ = _ at h24
          subst h24
          intro v25 h25
          change _ = _ at h25
          subst h25
          intro v26 h26
          change _ = _ at h26
          subst h26
          intro v27 h27
          change _ = _ at h27
          subst h27
          intro v28 h28
          change _ = _ at h28
          subst h28
          intro v29 h29
          change _ = _ at h29
          subst h29
          simp only [Given, gv2]
          have G5 := Lib.hid (RdW.below G4.out.drew hG)
          have HRES : Hid (hdR J.n X slot = none) := by show _ = _; rw [HN.out, HKN.out]; rfl
          obtain ⟨z0, z1, z2, z3⟩ := cells4 G5.out.res
          have zf : ∀ i, w1.frozen? ⟨hb, i, none⟩ = false := fun i => frozen_of_row w1 hb i _ _ G5.out.res
          go_wp2_with fail
          change bodyPost _ _ _ _ _ (setsR w1 hb [(0, .int .u64 0), (1, .int .u64 0), (2, .int .u64 0), (3, .int .i64 0)])
          obtain ⟨hrow, hri, htn⟩ := G5.out.fin [(0, .int .u64 0), (1, .int .u64 0), (2, .int .u64 0), (3, .int .i64 0)]
          generalize setsR w1 hb [(0, .int .u64 0), (1, .int .u64 0), (2, .int .u64 0), (3, .int .i64 0)] = wf at *
          rw [fold4] at hrow
          clear z0 z1 z2 z3 zf
          obtain ⟨z0, z1, z2, z3⟩ := cells4 hrow
          refine bodyPost_ret (v := .tuple #[.agg #[.int .u64 0, .int .u64 0, .int .u64 0, .int .i64 0], .int .i64 20]) (by simp [results, Try.results42, go_sem, z0, z1, z2, z3]) rfl ?_
          rw [HRES.out]
          exact ⟨rfl, hri, htn⟩
        have xx : decide (v2 < v1) = false := decide_eq_false (by omega)
        by_cases ht : v3 < (J.n : Int) - 2
        rotate_left
        · have tt : decide ((J.n : Int) - 2 ≤ v3) = true := decide_eq_true (by omega)
          have HKN : Hid (hdK J.n B slot = false) := by show _ = _; rw [HK.out, decide_eq_false (show ¬ v3 < (J.n : Int) - 2 from ht)]; simp
          clear HK
          refine' reg_free (G := Kept) (pickF [eqV _, eqV _, eqV _, eqV _, eqV _, eqV _, eqV _, eqV _, eqV _, eqV _, eqV _, eqV _, eqV _, eqV _, eqV _, eqV _, eqV _, eqV _, eqV _, eqV _, eqV _, eqV _, eqV _, eqV _, eqV _, eqV _, eqV _, eqV _, eqV _, eqV _]) [70, 71, 72, 73, 74, 75, 76, 77, 78, 79, 80, 81, 82, 83, 84, 85, 86, 87, 88, 89, 90, 91, 92, 93, 94, 95, 96, 97, 98, 99] [[], [0], [1], [2], [2, 3], [2, 4], [2], [2, 6], [2, 5, 7], [2, 8], [9], [10], [10, 11], [10, 12], [10, 13], [14], [15], [15, 16], [15], [15, 18], [15, 17, 19], [15, 20], [21], [22], [22, 23], [22], [22, 25], [22, 26], [22, 24, 27], [22, 28]] [0, 1, 2, 3, 4, 5, 6, 7, 8, 9, 10, 11, 12, 13, 14, 15, 16, 17, 18, 19, 20, 21, 22, 23, 24, 25, 26, 27, 28, 29] (by kernel_rfl) Kept.refl Kept.trans (pick_stays ⟨eqV_stays _, eqV_stays _, eqV_stays _, eqV_stays _, eqV_stays _, eqV_stays _, eqV_stays _, eqV_stays _, eqV_stays _, eqV_stays _, eqV_stays _, eqV_stays _, eqV_stays _, eqV_stays _, eqV_stays _, eqV_stays _, eqV_stays _, eqV_stays _, eqV_stays _, eqV_stays _, eqV_stays _, eqV_stays _, eqV_stays _, eqV_stays _, eqV_stays _, eqV_stays _, eqV_stays _, eqV_stays _, eqV_stays _, eqV_stays _, trivial⟩) 102 rfl (by kernel_rfl) (by kernel_rfl) rfl rfl ?r5obl ?r5fin
          case r5obl =>
            refine And.intro ?r5o0 (And.intro ?r5o1 (And.intro ?r5o2 (And.intro ?r5o3 (And.intro ?r5o4 (And.intro ?r5o5 (And.intro ?r5o6 (And.intro ?r5o7 (And.intro ?r5o8 (And.intro ?r5o9 (And.intro ?r5o10 (And.intro ?r5o11 (And.intro ?r5o12 (And.intro ?r5o13 (And.intro ?r5o14 (And.intro ?r5o15 (And.intro ?r5o16 (And.intro ?r5o17 (And.intro ?r5o18 (And.intro ?r5o19 (And.intro ?r5o20 (And.intro ?r5o21 (And.intro ?r5o22 (And.intro ?r5o23 (And.intro ?r5o24 (And.intro ?r5o25 (And.intro ?r5o26 (And.intro ?r5o27 (And.intro ?r5o28 (And.intro ?r5o29 (True.intro))))))))))))))))))))))))))))))
            case r5o0 =>
              intro w1 hG
              refine turn_on (by rfl) ?_
              intro K hK
              go_simp
              refine hK _ _ ⟨rfl, Kept.refl _, ?_⟩
              show _ = _
              simp only [gv1]
              rfl
            case r5o1 =>
              intro w1 hG
              intro v0 h0
              change _ = _ at h0
              subst h0
              refine turn_on (by rfl) ?_
              intro K hK
              simp only [gv2]
              go_simp
              refine hK _ _ ⟨rfl, Kept.refl _, ?_⟩
              show _ = _
              simp only [gv1]
              rfl
            case r5o2 =>
              intro w1 hG
              intro v1 h1
              change _ = _ at h1
              subst h1
              refine turn_on (by rfl) ?_
              intro K hK
              simp only [gv2]
              go_simp
              refine hK _ _ ⟨rfl, Kept.refl _, ?_⟩
              show _ = _
              simp only [gv1]
              rfl
            case r5o3 =>
              intro w1 hG
              intro v2 h2
              change _ = _ at h2
              subst h2
              refine turn_on (by rfl) ?_
              intro K hK
              simp only [gv2]
              go_simp
              refine hK _ _ ⟨rfl, Kept.refl _, ?_⟩
              show _ = _
              simp only [gv1]
              rfl
            case r5o4 =>
              intro w1 hG
              intro v2 h2
              change _ = _ at h2
              subst h2
              intro v3 h3
              change _ = _ at h3
              subst h3
              refine turn_on (by rfl) ?_
              intro K hK
              simp only [gv2]
              obtain ⟨q0, q1, q2, q3⟩ := cells4 (row_keep (w := w4.drew) HD4.out hG)
              go_simp
              refine hK _ _ ⟨rfl, Kept.refl _, ?_⟩
              show _ = _
              simp only [gv1]
              rfl
            case r5o5 =>
              intro w1 hG
              intro v2 h2
              change _ = _ at h2
              subst h2
              intro v4 h4
              change _ = _ at h4
              subst h4
              refine turn_on (by rfl) ?_
              intro K hK
              simp only [gv2]
              go_simp
              refine hK _ _ ⟨rfl, Kept.refl _, ?_⟩
              show _ = _
              simp only [gv1]
              rfl
            case r5o6 =>
              intro w1 hG
              intro v2 h2
              change _ = _ at h2
              subst h2
              refine turn_on (by rfl) ?_
              intro K hK
              simp only [gv2]
              go_simp
              refine hK _ _ ⟨rfl, Kept.refl _, ?_⟩
              show _ = _
              simp only [gv1]
              rfl
            case r5o7 =>
              intro w1 hG
              intro v2 h2
              change _ = _ at h2
              subst h2
              intro v6 h6
              change _ = _ at h6
              subst h6
              refine turn_on (by rfl) ?_
              intro K hK
              simp only [gv2]
              go_simp
              refine hK _ _ ⟨rfl, Kept.refl _, ?_⟩
              show _ = _
              simp only [gv1]
              rfl
            case r5o8 =>
              intro w1 hG
              intro v2 h2
              change _ = _ at h2
              subst h2
              intro v5 h5
              change _ = _ at h5
              subst h5
              intro v7 h7
              change _ = _ at h7
              subst h7
              refine turn_on (by rfl) ?_
              intro K hK
              simp only [gv2]
              go_simp
              refine hK _ _ ⟨rfl, Kept.refl _, ?_⟩
              show _ = _
              simp only [gv1]
              rfl
            case r5o9 =>
              intro w1 hG
              intro v2 h2
              change _ = _ at h2
              subst h2
              intro v8 h8
              change _ = _ at h8
              subst h8
              refine turn_on (by rfl) ?_
              intro K hK
              simp only [gv2]
              go_simp
              refine hK _ _ ⟨rfl, Kept.refl _, ?_⟩
              show _ = _
              simp only [gv1]
              rfl
            case r5o10 =>
              intro w1 hG
              intro v9 h9
              change _ = _ at h9
              subst h9
              refine turn_on (by rfl) ?_
              intro K hK
              simp only [gv2]
              go_simp
              refine hK _ _ ⟨rfl, Kept.refl _, ?_⟩
              show _ = _
              simp only [gv1]
              rfl
            case r5o11 =>
              intro w1 hG
              intro v10 h10
              change _ = _ at h10
              subst h10
              refine turn_on (by rfl) ?_
              intro K hK
              simp only [gv2]
              go_simp
              refine hK _ _ ⟨rfl, Kept.refl _, ?_⟩
              show _ = _
              simp only [gv1]
              rfl
            case r5o12 =>
              intro w1 hG
              intro v10 h10
              change _ = _ at h10
              subst h10
              intro v11 h11
              change _ = _ at h11
              subst h11
              refine turn_on (by rfl) ?_
              intro K hK
              simp only [gv2]
              obtain ⟨q0, q1, q2, q3⟩ := cells4 (row_keep (w := w4.drew) HD4.out hG)
              go_simp
              refine hK _ _ ⟨rfl, Kept.refl _, ?_⟩
              show _ = _
              simp only [gv1]
              rfl
            case r5o13 =>
              intro w1 hG
              intro v10 h10
              change _ = _ at h10
              subst h10
              intro v12 h12
              change _ = _ at h12
              subst h12
              refine turn_on (by rfl) ?_
              intro K hK
              simp only [gv2]
              go_simp
              refine hK _ _ ⟨rfl, Kept.refl _, ?_⟩
              show _ = _
              simp only [gv1]
              rfl
            case r5o14 =>
              intro w1 hG
              intro v10 h10
              change _ = _ at h10
              subst h10
              intro v13 h13
              change _ = _ at h13
              subst h13
              refine turn_on (by rfl) ?_
              intro K hK
              simp only [gv2]
              go_simp
              refine hK _ _ ⟨rfl, Kept.refl _, ?_⟩
              show _ = _
              simp only [gv1]
              rfl
            case r5o15 =>
              intro w1 hG
              intro v14 h14
              change _ = _ at h14
              subst h14
              refine turn_on (by rfl) ?_
              intro K hK
              simp only [gv2]
              go_simp
              refine hK _ _ ⟨rfl, Kept.refl _, ?_⟩
              show _ = _
              simp only [gv1]
              rfl
            case r5o16 =>
              intro w1 hG
              intro v15 h15
              change _ = _ at h15
              subst h15
              refine turn_on (by rfl) ?_
              intro K hK
              simp only [gv2]
              go_simp
              refine hK _ _ ⟨rfl, Kept.refl _, ?_⟩
              show _ = _
              simp only [gv1]
              rfl
            case r5o17 =>
              intro w1 hG
              intro v15 h15
              change _ = _ at h15
              subst h15
              intro v16 h16
              change _ = _ at h16
              subst h16
              refine turn_on (by rfl) ?_
              intro K hK
              simp only [gv2]
              obtain ⟨q0, q1, q2, q3⟩ := cells4 (row_keep (w := w4.drew) HD4.out hG)
              go_simp
              refine hK _ _ ⟨rfl, Kept.refl _, ?_⟩
              show _ = _
              simp only [gv1]
              rfl
            case r5o18 =>
              intro w1 hG
              intro v15 h15
              change _ = _ at h15
              subst h15
              refine turn_on (by rfl) ?_
              intro K hK
              simp only [gv2]
              go_simp
              refine hK _ _ ⟨rfl, Kept.refl _, ?_⟩
              show _ = _
              simp only [gv1]
              rfl
            case r5o19 =>
              intro w1 hG
              intro v15 h15
              change _ = _ at h15
              subst h15
              intro v18 h18
              change _ = _ at h18
              subst h18
              refine turn_on (by rfl) ?_
              intro K hK
              simp only [gv2]
              obtain ⟨q0, q1, q2, q3⟩ := cells4 (row_keep (w := w4.drew) HD4.out hG)
              go_simp
              refine hK _ _ ⟨rfl, Kept.refl _, ?_⟩
              show _ = _
              simp only [gv1]
              rfl
            case r5o20 =>
              intro w1 hG
              intro v15 h15
              change _ = _ at h15
              subst h15
              intro v17 h17
              change _ = _ at h17
              subst h17
              intro v19 h19
              change _ = _ at h19
              subst h19
              refine turn_on (by rfl) ?_
              intro K hK
              simp only [gv2]
              go_simp
              refine hK _ _ ⟨rfl, Kept.refl _, ?_⟩
              show _ = _
              simp only [gv1]
              rfl
            case r5o21 =>
              intro w1 hG
              intro v15 h15
              change _ = _ at h15
              subst h15
              intro v20 h20
              change _ = _ at h20
              subst h20
              refine turn_on (by rfl) ?_
              intro K hK
              simp only [gv2]
              go_simp
              refine hK _ _ ⟨rfl, Kept.refl _, ?_⟩
              show _ = _
              simp only [gv1]
              rfl
            case r5o22 =>
              intro w1 hG
              intro v21 h21
              change _ = _ at h21
              subst h21
              refine turn_on (by rfl) ?_
              intro K hK
              simp only [gv2]
              go_simp
              refine hK _ _ ⟨rfl, Kept.refl _, ?_⟩
              show _ = _
              simp only [gv1]
              rfl
            case r5o23 =>
              intro w1 hG
              intro v22 h22
              change _ = _ at h22
              subst h22
              refine turn_on (by rfl) ?_
              intro K hK
              simp only [gv2]
              go_simp
              refine hK _ _ ⟨rfl, Kept.refl _, ?_⟩
              show _ = _
              simp only [gv1]
              rfl
            case r5o24 =>
              intro w1 hG
              intro v22 h22
              change _ = _ at h22
              subst h22
              intro v23 h23
              change _ = _ at h23
              subst h23
              refine turn_on (by rfl) ?_
              intro K hK
              simp only [gv2]
              obtain ⟨p0, p1, p2, p3⟩ := cells4 (row_keep (w := w4.drew) AR4.out hG)
              go_simp
              refine hK _ _ ⟨rfl, Kept.refl _, ?_⟩
              show _ = _
              simp only [gv1]
              rfl
            case r5o25 =>
              intro w1 hG
              intro v22 h22
              change _ = _ at h22
              subst h22
              refine turn_on (by rfl) ?_
              intro K hK
              simp only [gv2]
              go_simp
              refine hK _ _ ⟨rfl, Kept.refl _, ?_⟩
              show _ = _
              simp only [gv1]
              rfl
            case r5o26 =>
              intro w1 hG
              intro v22 h22
              change _ = _ at h22
              subst h22
              intro v25 h25
              change _ = _ at h25
              subst h25
              refine turn_on (by rfl) ?_
              intro K hK
              simp only [gv2]
              go_simp
              refine Calls.mono (area_any r d sv J w1 (row_keep (w := w4.drew) ROW4.out hG) OK.out) ?_
              rintro e w2 ⟨rfl, rfl⟩
              refine hK _ _ ⟨rfl, Kept.refl _, ?_⟩
              show _ = _
              simp only [gv1]
              rfl
            case r5o27 =>
              intro w1 hG
              intro v22 h22
              change _ = _ at h22
              subst h22
              intro v26 h26
              change _ = _ at h26
              subst h26
              refine turn_on (by rfl) ?_
              intro K hK
              simp only [gv2]
              go_simp
              refine hK _ _ ⟨rfl, Kept.refl _, ?_⟩
              show _ = _
              simp only [gv1]
              rfl
            case r5o28 =>
              intro w1 hG
              intro v22 h22
              change _ = _ at h22
              subst h22
              intro v24 h24
              change _ = _ at h24
              subst h24
              intro v27 h27
              change _ = _ at h27
              subst h27
              refine turn_on (by rfl) ?_
              intro K hK
              simp only [gv2]
              go_simp
              refine hK _ _ ⟨rfl, Kept.refl _, ?_⟩
              show _ = _
              simp only [gv1]
              rfl
            case r5o29 =>
              intro w1 hG
              intro v22 h22
              change _ = _ at h22
              subst h22
              intro v28 h28
              change _ = _ at h28
              subst h28
              refine turn_on (by rfl) ?_
              intro K hK
              simp only [gv2]
              go_simp
              refine hK _ _ ⟨rfl, Kept.refl _, ?_⟩
              show _ = _
              simp only [gv1]
              rfl
          intro w1 hG
          intro v0 h0
          change _ = _ at h0
          subst h0
          intro v1 h1
          change _ = _ at h1
          subst h1
          intro v2 h2
          change _ = _ at h2
          subst h2
          intro v3 h3
          change _ = _ at h3
          subst h3
          intro v4 h4
          change _ = _ at h4
          subst h4
          intro v5 h5
          change _ = _ at h5
          subst h5
          intro v6 h6
          change _ = _ at h6
          subst h6
          intro v7 h7
          change _ = _ at h7
          subst h7
          intro v8 h8
          change _ = _ at h8
          subst h8
          intro v9 h9
          change _ = _ at h9
          subst h9
          intro v10 h10
          change _ = _ at h10
          subst h10
          intro v11 h11
          change _ = _ at h11
          subst h11
          intro v12 h12
          change _ = _ at h12
          subst h12
          intro v13 h13
          change _ = _ at h13
          subst h13
          intro v14 h14
          change _ = _ at h14
          subst h14
          intro v15 h15
          change _ = _ at h15
          subst h15
          intro v16 h16
          change _ = _ at h16
          subst h16
          intro v17 h17
          change _ = _ at h17
          subst h17
          intro v18 h18
          change _ = _ at h18
          subst h18
          intro v19 h19
          change _ = _ at h19
          subst h19
          intro v20 h20
          change _ = _ at h20
          subst h20
          intro v21 h21
          change _ = _ at h21
          subst h21
          intro v22 h22
          change _ = _ at h22
          subst h22
          intro v23 h23
          change _ = _ at h23
          subst h23
          intro v24 h24
          change _ = _ at h24
          subst h24
          intro v25 h25
          change _ = _ at h25
          subst h25
          intro v26 h26
          change _ = _ at h26
          subst h26
          intro v27 h27
          change _ = _ at h27
          subst h27
          intro v28 h28
          change _ = _ at h28
          subst h28
          intro v29 h29
          change _ = _ at h29
          subst h29
          simp only [Given, gv2]
          have G5 := Lib.hid (RdW.below G4.out.drew hG)
          have HRES : Hid (hdR J.n X slot = none) := by show _ = _; rw [HN.out, HKN.out]; rfl
          obtain ⟨z0, z1, z2, z3⟩ := cells4 G5.out.res
          have zf : ∀ i, w1.frozen? ⟨hb, i, none⟩ = false := fun i => frozen_of_row w1 hb i _ _ G5.out.res
          go_wp2_with fail
          change bodyPost _ _ _ _ _ (setsR w1 hb [(0, .int .u64 0), (1, .int .u64 0), (2, .int .u64 0), (3, .int .i64 0)])
          obtain ⟨hrow, hri, htn⟩ := G5.out.fin [(0, .int .u64 0), (1, .int .u64 0), (2, .int .u64 0), (3, .int .i64 0)]
          generalize setsR w1 hb [(0, .int .u64 0), (1, .int .u64 0), (2, .int .u64 0), (3, .int .i64 0)] = wf at *
          rw [fold4] at hrow
          clear z0 z1 z2 z3 zf
          obtain ⟨z0, z1, z2, z3⟩ := cells4 hrow
          refine bodyPost_ret (v := .tuple #[.agg #[.int .u64 0, .int .u64 0, .int .u64 0, .int .i64 0], .int .i64 20]) (by simp [results, Try.results42, go_sem, z0, z1, z2, z3]) rfl ?_
          rw [HRES.out]
          exact ⟨rfl, hri, htn⟩
        have tt : decide ((J.n : Int) - 2 ≤ v3) = false := decide_eq_false (by omega)
        refine' reg_free (G := Kept) (pickF [eqV _, eqV _, eqV _, eqV _, eqV _, eqV _, eqV _, eqV _, eqV _, eqV _, eqV _, eqV _, eqV _, eqV _, eqV _, eqV _, eqV _, eqV _, eqV _, eqV _, eqV _, eqV _, eqV _, eqV _, eqV _, eqV _, eqV _, eqV _, eqV _, eqV _]) [70, 71, 72, 73, 74, 75, 76, 77, 78, 79, 80, 81, 82, 83, 84, 85, 86, 87, 88, 89, 90, 91, 92, 93, 94, 95, 96, 97, 98, 99] [[], [0], [1], [2], [2, 3], [2, 4], [2], [2, 6], [2, 5, 7], [2, 8], [9], [10], [10, 11], [10, 12], [10, 13], [14], [15], [15, 16], [15], [15, 18], [15, 17, 19], [15, 20], [21], [22], [22, 23], [22], [22, 25], [22, 26], [22, 24, 27], [22, 28]] [0, 1, 2, 3, 4, 5, 6, 7, 8, 9, 10, 11, 12, 13, 14, 15, 16, 17, 18, 19, 20, 21, 22, 23, 24, 25, 26, 27, 28, 29] (by kernel_rfl) Kept.refl Kept.trans (pick_stays ⟨eqV_stays _, eqV_stays _, eqV_stays _, eqV_stays _, eqV_stays _, eqV_stays _, eqV_stays _, eqV_stays _, eqV_stays _, eqV_stays _, eqV_stays _, eqV_stays _, eqV_stays _, eqV_stays _, eqV_stays _, eqV_stays _, eqV_stays _, eqV_stays _, eqV_stays _, eqV_stays _, eqV_stays _, eqV_stays _, eqV_stays _, eqV_stays _, eqV_stays _, eqV_stays _, eqV_stays _, eqV_stays _, eqV_stays _, eqV_stays _, trivial⟩) 102 rfl (by kernel_rfl) (by kernel_rfl) rfl rfl ?r6obl ?r6fin
        case r6obl =>
          refine And.intro ?r6o0 (And.intro ?r6o1 (And.intro ?r6o2 (And.intro ?r6o3 (And.intro ?r6o4 (And.intro ?r6o5 (And.intro ?r6o6 (And.intro ?r6o7 (And.intro ?r6o8 (And.intro ?r6o9 (And.intro ?r6o10 (And.intro ?r6o11 (And.intro ?r6o12 (And.intro ?r6o13 (And.intro ?r6o14 (And.intro ?r6o15 (And.intro ?r6o16 (And.intro ?r6o17 (And.intro ?r6o18 (And.intro ?r6o19 (And.intro ?r6o20 (And.intro ?r6o21 (And.intro ?r6o22 (And.intro ?r6o23 (And.intro ?r6o24 (And.intro ?r6o25 (And.intro ?r6o26 (And.intro ?r6o27 (And.intro ?r6o28 (And.intro ?r6o29 (True.intro))))))))))))))))))))))))))))))
          case r6o0 =>
            intro w1 hG
            refine turn_on (by rfl) ?_
            intro K hK
            go_simp
            refine hK _ _ ⟨rfl, Kept.refl _, ?_⟩
            show _ = _
            simp only [gv1]
            rfl
          case r6o1 =>
            intro w1 hG
            intro v0 h0
            change _ = _ at h0
            subst h0
            refine turn_on (by rfl) ?_
            intro K hK
            simp only [gv2]
            go_simp
            refine hK _ _ ⟨rfl, Kept.refl _, ?_⟩
            show _ = _
            simp only [gv1]
            rfl
          case r6o2 =>
            intro w1 hG
            intro v1 h1
            change _ = _ at h1
            subst h1
            refine turn_on (by rfl) ?_
            intro K hK
            simp only [gv2]
            go_simp
            refine hK _ _ ⟨rfl, Kept.refl _, ?_⟩
            show _ = _
            simp only [gv1]
            rfl
          case r6o3 =>
            intro w1 hG
            intro v2 h2
            change _ = _ at h2
            subst h2
            refine turn_on (by rfl) ?_
            intro K hK
            simp only [gv2]
            go_simp
            refine hK _ _ ⟨rfl, Kept.refl _, ?_⟩
            show _ = _
            simp only [gv1]
            rfl
          case r6o4 =>
            intro w1 hG
            intro v2 h2
            change _ = _ at h2
            subst h2
            intro v3 h3
            change _ = _ at h3
            subst h3
            refine turn_on (by rfl) ?_
            intro K hK
            simp only [gv2]
            obtain ⟨q0, q1, q2, q3⟩ := cells4 (row_keep (w := w4.drew) HD4.out hG)
            go_simp
            refine hK _ _ ⟨rfl, Kept.refl _, ?_⟩
            show _ = _
            simp only [gv1]
            rfl
          case r6o5 =>
            intro w1 hG
            intro v2 h2
            change _ = _ at h2
            subst h2
            intro v4 h4
            change _ = _ at h4
            subst h4
            refine turn_on (by rfl) ?_
            intro K hK
            simp only [gv2]
            go_simp
            refine hK _ _ ⟨rfl, Kept.refl _, ?_⟩
            show _ = _
            simp only [gv1]
            rfl
          case r6o6 =>
            intro w1 hG
            intro v2 h2
            change _ = _ at h2
            subst h2
            refine turn_on (by rfl) ?_
            intro K hK
            simp only [gv2]
            go_simp
            refine hK _ _ ⟨rfl, Kept.refl _, ?_⟩
            show _ = _
            simp only [gv1]
            rfl
          case r6o7 =>
            intro w1 hG
            intro v2 h2
            change _ = _ at h2
            subst h2
            intro v6 h6
            change _ = _ at h6
            subst h6
            refine turn_on (by rfl) ?_
            intro K hK
            simp only [gv2]
            go_simp
            refine hK _ _ ⟨rfl, Kept.refl _, ?_⟩
            show _ = _
            simp only [gv1]
            rfl
          case r6o8 =>
            intro w1 hG
            intro v2 h2
            change _ = _ at h2
            subst h2
            intro v5 h5
            change _ = _ at h5
            subst h5
            intro v7 h7
            change _ = _ at h7
            subst h7
            refine turn_on (by rfl) ?_
            intro K hK
            simp only [gv2]
            go_simp
            refine hK _ _ ⟨rfl, Kept.refl _, ?_⟩
            show _ = _
            simp only [gv1]
            rfl
          case r6o9 =>
            intro w1 hG
            intro v2 h2
            change _ = _ at h2
            subst h2
            intro v8 h8
            change _ = _ at h8
            subst h8
            refine turn_on (by rfl) ?_
            intro K hK
            simp only [gv2]
            go_simp
            refine hK _ _ ⟨rfl, Kept.refl _, ?_⟩
            show _ = _
            simp only [gv1]
            rfl
          case r6o10 =>
            intro w1 hG
            intro v9 h9
            change _ = _ at h9
            subst h9
            refine turn_on (by rfl) ?_
            intro K hK
            simp only [gv2]
            go_simp
            refine hK _ _ ⟨rfl, Kept.refl _, ?_⟩
            show _ = _
            simp only [gv1]
            rfl
          case r6o11 =>
            intro w1 hG
            intro v10 h10
            change _ = _ at h10
            subst h10
            refine turn_on (by rfl) ?_
            intro K hK
            simp only [gv2]
            go_simp
            refine hK _ _ ⟨rfl, Kept.refl _, ?_⟩
            show _ = _
            simp only [gv1]
            rfl
          case r6o12 =>
            intro w1 hG
            intro v10 h10
            change _ = _ at h10
            subst h10
            intro v11 h11
            change _ = _ at h11
            subst h11
            refine turn_on (by rfl) ?_
            intro K hK
            simp only [gv2]
            obtain ⟨q0, q1, q2, q3⟩ := cells4 (row_keep (w := w4.drew) HD4.out hG)
            go_simp
            refine hK _ _ ⟨rfl, Kept.refl _, ?_⟩
            show _ = _
            simp only [gv1]
            rfl
          case r6o13 =>
            intro w1 hG
            intro v10 h10
            change _ = _ at h10
            subst h10
            intro v12 h12
            change _ = _ at h12
            subst h12
            refine turn_on (by rfl) ?_
            intro K hK
            simp only [gv2]
            go_simp
            refine hK _ _ ⟨rfl, Kept.refl _, ?_⟩
            show _ = _
            simp only [gv1]
            rfl
          case r6o14 =>
            intro w1 hG
            intro v10 h10
            change _ = _ at h10
            subst h10
            intro v13 h13
            change _ = _ at h13
            subst h13
            refine turn_on (by rfl) ?_
            intro K hK
            simp only [gv2]
            go_simp
            refine hK _ _ ⟨rfl, Kept.refl _, ?_⟩
            show _ = _
            simp only [gv1]
            rfl
          case r6o15 =>
            intro w1 hG
            intro v14 h14
            change _ = _ at h14
            subst h14
            refine turn_on (by rfl) ?_
            intro K hK
            simp only [gv2]
            go_simp
            refine hK _ _ ⟨rfl, Kept.refl _, ?_⟩
            show _ = _
            simp only [gv1]
            rfl
          case r6o16 =>
            intro w1 hG
            intro v15 h15
            change _ = _ at h15
            subst h15
            refine turn_on (by rfl) ?_
            intro K hK
            simp only [gv2]
            go_simp
            refine hK _ _ ⟨rfl, Kept.refl _, ?_⟩
            show _ = _
            simp only [gv1]
            rfl
          case r6o17 =>
            intro w1 hG
            intro v15 h15
            change _ = _ at h15
            subst h15
            intro v16 h16
            change _ = _ at h16
            subst h16
            refine turn_on (by rfl) ?_
            intro K hK
            simp only [gv2]
            obtain ⟨q0, q1, q2, q3⟩ := cells4 (row_keep (w := w4.drew) HD4.out hG)
            go_simp
            refine hK _ _ ⟨rfl, Kept.refl _, ?_⟩
            show _ = _
            simp only [gv1]
            rfl
          case r6o18 =>
            intro w1 hG
            intro v15 h15
            change _ = _ at h15
            subst h15
            refine turn_on (by rfl) ?_
            intro K hK
            simp only [gv2]
            go_simp
            refine hK _ _ ⟨rfl, Kept.refl _, ?_⟩
            show _ = _
            simp only [gv1]
            rfl
          case r6o19 =>
            intro w1 hG
            intro v15 h15
            change _ = _ at h15
            subst h15
            intro v18 h18
            change _ = _ at h18
            subst h18
            refine turn_on (by rfl) ?_
            intro K hK
            simp only [gv2]
            obtain ⟨q0, q1, q2, q3⟩ := cells4 (row_keep (w := w4.drew) HD4.out hG)
            go_simp
            refine hK _ _ ⟨rfl, Kept.refl _, ?_⟩
            show _ = _
            simp only [gv1]
            rfl
          case r6o20 =>
            intro w1 hG
            intro v15 h15
            change _ = _ at h15
            subst h15
            intro v17 h17
            change _ = _ at h17
            subst h17
            intro v19 h19
            change _ = _ at h19
            subst h19
            refine turn_on (by rfl) ?_
            intro K hK
            simp only [gv2]
            go_simp
            refine hK _ _ ⟨rfl, Kept.refl _, ?_⟩
            show _ = _
            simp only [gv1]
            rfl
          case r6o21 =>
            intro w1 hG
            intro v15 h15
            change _ = _ at h15
            subst h15
            intro v20 h20
            change _ = _ at h20
            subst h20
            refine turn_on (by rfl) ?_
            intro K hK
            simp only [gv2]
            go_simp
            refine hK _ _ ⟨rfl, Kept.refl _, ?_⟩
            show _ = _
            simp only [gv1]
            rfl
          case r6o22 =>
            intro w1 hG
            intro v21 h21
            change _ = _ at h21
            subst h21
            refine turn_on (by rfl) ?_
            intro K hK
            simp only [gv2]
            go_simp
            refine hK _ _ ⟨rfl, Kept.refl _, ?_⟩
            show _ = _
            simp only [gv1]
            rfl
          case r6o23 =>
            intro w1 hG
            intro v22 h22
            change _ = _ at h22
            subst h22
            refine turn_on (by rfl) ?_
            intro K hK
            simp only [gv2]
            go_simp
            refine hK _ _ ⟨rfl, Kept.refl _, ?_⟩
            show _ = _
            simp only [gv1]
            rfl
          case r6o24 =>
            intro w1 hG
            intro v22 h22
            change _ = _ at h22
            subst h22
            intro v23 h23
            change _ = _ at h23
            subst h23
            refine turn_on (by rfl) ?_
            intro K hK
            simp only [gv2]
            obtain ⟨p0, p1, p2, p3⟩ := cells4 (row_keep (w := w4.drew) AR4.out hG)
            go_simp
            refine hK _ _ ⟨rfl, Kept.refl _, ?_⟩
            show _ = _
            simp only [gv1]
            rfl
          case r6o25 =>
            intro w1 hG
            intro v22 h22
            change _ = _ at h22
            subst h22
            refine turn_on (by rfl) ?_
            intro K hK
            simp only [gv2]
            go_simp
            refine hK _ _ ⟨rfl, Kept.refl _, ?_⟩
            show _ = _
            simp only [gv1]
            rfl
          case r6o26 =>
            intro w1 hG
            intro v22 h22
            change _ = _ at h22
            subst h22
            intro v25 h25
            change _ = _ at h25
            subst h25
            refine turn_on (by rfl) ?_
            intro K hK
            simp only [gv2]
            go_simp
            refine Calls.mono (area_any r d sv J w1 (row_keep (w := w4.drew) ROW4.out hG) OK.out) ?_
            rintro e w2 ⟨rfl, rfl⟩
            refine hK _ _ ⟨rfl, Kept.refl _, ?_⟩
            show _ = _
            simp only [gv1]
            rfl
          case r6o27 =>
            intro w1 hG
            intro v22 h22
            change _ = _ at h22
            subst h22
            intro v26 h26
            change _ = _ at h26
            subst h26
            refine turn_on (by rfl) ?_
            intro K hK
            simp only [gv2]
            go_simp
            refine hK _ _ ⟨rfl, Kept.refl _, ?_⟩
            show _ = _
            simp only [gv1]
            rfl
          case r6o28 =>
            intro w1 hG
            intro v22 h22
            change _ = _ at h22
            subst h22
            intro v24 h24
            change _ = _ at h24
            subst h24
            intro v27 h27
            change _ = _ at h27
            subst h27
            refine turn_on (by rfl) ?_
            intro K hK
            simp only [gv2]
            go_simp
            refine hK _ _ ⟨rfl, Kept.refl _, ?_⟩
            show _ = _
            simp only [gv1]
            rfl
          case r6o29 =>
            intro w1 hG
            intro v22 h22
            change _ = _ at h22
            subst h22
            intro v28 h28
            change _ = _ at h28
            subst h28
            refine turn_on (by rfl) ?_
            intro K hK
            simp only [gv2]
            go_simp
            refine hK _ _ ⟨rfl, Kept.refl _, ?_⟩
            show _ = _
            simp only [gv1]
            rfl
        intro w1 hG
        intro v0 h0
        change _ = _ at h0
        subst h0
        intro v1 h1
        change _ = _ at h1
        subst h1
        intro v2 h2
        change _ = _ at h2
        subst h2
        intro v3 h3
        change _ = _ at h3
        subst h3
        intro v4 h4
        change _ = _ at h4
        subst h4
        intro v5 h5
        change _ = _ at h5
        subst h5
        intro v6 h6
        change _ = _ at h6
        subst h6
        intro v7 h7
        change _ = _ at h7
        subst h7
        intro v8 h8
        change _ = _ at h8
        subst h8
        intro v9 h9
        change _ = _ at h9
        subst h9
        intro v10 h10
        change _ = _ at h10
        subst h10
        intro v11 h11
        change _ = _ at h11
        subst h11
        intro v12 h12
        change _ = _ at h12
        subst h12
        intro v13 h13
        change _ = _ at h13
        subst h13
        intro v14 h14
        change _ = _ at h14
        subst h14
        intro v15 h15
        change _ = _ at h15
        subst h15
        intro v16 h16
        change _ = _ at h16
        subst h16
        intro v17 h17
        change _ = _ at h17
        subst h17
        intro v18 h18
        change _ = _ at h18
        subst h18
        intro v19 h19
        change _ = _ at h19
        subst h19
        intro v20 h20
        change _ = _ at h20
        subst h20
        intro v21 h21
        change _ = _ at h21
        subst h21
        intro v22 h22
        change _ = _ at h22
        subst h22
        intro v23 h23
        change _ = _ at h23
        subst h23
        intro v24 h24
        change _ = _ at h24
        subst h24
        intro v25 h25
        change _ = _ at h25
        subst h25
        intro v26 h26
        change _ = _ at h26
        subst h26
        intro v27 h27
        change _ = _ at h27
        subst h27
        intro v28 h28
        change _ = _ at h28
        subst h28
        intro v29 h29
        change _ = _ at h29
        subst h29
        simp only [Given, gv2]
        have G5 := Lib.hid (RdW.below G4.out.drew hG)
        have HKY : Hid (hdK J.n B slot = true) := by show _ = _; rw [HK.out, decide_eq_true hm, decide_eq_true hs, decide_eq_true hf, decide_eq_true hx, decide_eq_true ht]; rfl
        have HV3 : wrap64 v3 = v3 := by unfold wrap64; omega
        have HRES : Hid (hdR J.n X slot = some ⟨v0, v1, v2, v3⟩) := by show _ = _; rw [HN.out, HKY.out, if_pos rfl, HF.out]
        obtain ⟨q0, q1, q2, q3⟩ := cells4 (row_keep (w := w4.drew) HD4.out hG)
        rw [HV3] at q3
        obtain ⟨z0, z1, z2, z3⟩ := cells4 G5.out.res
        have zf : ∀ i, w1.frozen? ⟨hb, i, none⟩ = false := fun i => frozen_of_row w1 hb i _ _ G5.out.res
        go_wp2_with fail
        change bodyPost _ _ _ _ _ (setsR w1 hb [(0, .int .u64 v0), (1, .int .u64 v1), (2, .int .u64 v2), (3, .int .i64 v3)])
        obtain ⟨hrow, hri, htn⟩ := G5.out.fin [(0, .int .u64 v0), (1, .int .u64 v1), (2, .int .u64 v2), (3, .int .i64 v3)]
        generalize setsR w1 hb [(0, .int .u64 v0), (1, .int .u64 v1), (2, .int .u64 v2), (3, .int .i64 v3)] = wf at *
        rw [fold4] at hrow
        clear z0 z1 z2 z3 zf
        obtain ⟨z0, z1, z2, z3⟩ := cells4 hrow
        refine bodyPost_ret (v := .tuple #[.agg #[.int .u64 v0, .int .u64 v1, .int .u64 v2, .int .i64 v3], .int .i64 0]) (by simp [results, Try.results42, go_sem, z0, z1, z2, z3]) rfl ?_
        rw [HRES.out]
        exact ⟨rfl, hri, htn⟩
end Go.Proofs.Ytlhpdkapddnbcaa
