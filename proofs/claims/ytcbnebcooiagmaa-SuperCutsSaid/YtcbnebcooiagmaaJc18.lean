/- Joined: super: Read. super's laws: the little functions of the chapter. super's laws: the chapter's example. super: what two slots read as: plain laws for SuperTurns, SuperCuts, SuperReads. super: a write that is cut: the plain law of SuperCuts. disk: Arm, whatever is to be kept. -/
import Derived.Test.YtcbnebcooiagmaaJc17
import Derived.Test.YtcbnebcooiagmaaJc16
import Derived.Test.YtcbnebcooiagmaaJc3
namespace Go.Proofs.Ytcbnebcooiagmaa
open Go.RowKit
def slotB (st : Dk) (i : Nat) : Blk := supD (secB st i)
/-- What lies in a slot is a block of the disk's shape, in its place. -/
def slotOk (st : Dk) (i : Nat) : Bool := decide (supDE (secB st i) = 0) && decide ((slotB st i).ep % 2 = i) && fitB st (slotB st i)
def bestS (st : Dk) : Nat → Bool
  | 0 => false
  | k + 1 => slotOk st k || bestS st k
def bestB (st : Dk) : Nat → Blk
  | 0 => blk0
  | k + 1 => if (slotOk st k && (!bestS st k || decide ((bestB st k).ep < (slotB st k).ep))) = true then slotB st k else bestB st k
def readN (st : Dk) (k : Nat) : Dk := { st with reads := st.reads + k }
theorem rd_eq {st : Dk} (ho : st.off = false) (hn : 2 ≤ st.kept.length) (k : Nat) (hk : k < 2) : rdE (readN st k) k = 0 ∧ rdV (readN st k) k = secB st k ∧ rdS (readN st k) k = readN st (k + 1) := by
  have hi : inS (readN st k) k = true := by
    unfold inS
    rw [decide_eq_true (show (0 : Int) ≤ k by omega), decide_eq_true (show (k : Int) < ((readN st k).kept.length : Int) by show (k : Int) < (st.kept.length : Int); omega)]
    rfl
  have h1 : rdE (readN st k) k = 0 := by
    unfold rdE
    rw [hi]
    show (if st.off = true then (8 : Int) else _) = 0
    rw [ho]
    rfl
  refine ⟨h1, by unfold rdV; rw [if_pos h1, Int.toNat_natCast]; rfl, ?_⟩
  unfold rdS
  rw [if_pos h1]
  unfold readN
  simp only [Dk.mk.injEq, true_and]
  show st.reads + (k : Int) + 1 = st.reads + ((k + 1 : Nat) : Int)
  omega
theorem secB_le {st : Dk} (h : DkOk st) (i : Nat) : (secB st i).length ≤ 4096 := by
  have hs := h.size.2
  unfold secB
  split
  · rename_i j _
    cases hp : st.pend[j.toNat]? with
    | none => simp
    | some p =>
      have := (h.pend p (List.mem_of_getElem? hp)).1
      simp only [Option.map_some, Option.getD_some]
      omega
  · cases hp : st.kept[i]? with
    | none => simp
    | some l =>
      have := h.kept l (List.mem_of_getElem? hp)
      simp only [Option.getD_some]
      omega
theorem Tnd.trans_at {Z : Nat → Prop} {w w1 w2 : World} {b : Nat} (t : Tnd Z Z w w1) (hg : w1.grownBy w2 (some b)) (hb : w.heap.size ≤ b) : Tnd Z Z w w2 :=
  ⟨hg.os.trans t.os, hg.tape.trans t.tape, hg.output.trans t.output, Nat.le_trans t.size hg.size, fun k hk hz => (hg.block k (Nat.lt_of_lt_of_le hk t.size) (fun e => by injection e with e; omega)).trans (t.block k hk hz), t.sub⟩
theorem DkIn.ok {w : World} {Z : Nat → Prop} {d : Nat} {st : Dk} (h : DkIn w Z d st) : DkOk st := by
  obtain ⟨_, _, _, _, _, _, _, p⟩ := h
  exact p.ok
def Blk.row (b : Blk) : Array Value := #[.int .u64 b.ep, .int .i64 b.c0, .int .i64 b.c1, .int .i64 b.c2, .int .i64 b.c3, .int .i64 b.c4, .int .i64 b.c5, .int .i64 b.c6, .int .i64 b.c7, .int .i64 b.c8, .int .i64 b.rs, .int .i64 b.rn, .int .u64 b.sq]
theorem blk0_wf : blk0.Wf := ⟨by decide, by decide, by decide, by decide, by decide, by decide, by decide, by decide, by decide, by decide, by decide, by decide, by decide⟩
theorem key_four (b : Blk) : ∃ y0 y1 y2 y3, keyL b = [y0, y1, y2, y3] := by
  unfold keyL
  split
  · exact ⟨_, _, _, _, by simp only [putL]; rfl⟩
  · exact ⟨_, _, _, _, rfl⟩
def supRE (st : Dk) : Int := if st.off = true then 8 else if bestS st 2 = true then 0 else 20
def supRB (st : Dk) : Blk := if st.off = true then blk0 else if bestS st 2 = true then bestB st 2 else blk0
def supRS (st : Dk) : Dk := if st.off = true then st else readN st 2
set_option linter.unusedSimpArgs false in
set_option linter.unusedVariables false in
set_option maxRecDepth 100000 in
set_option maxHeartbeats 1600000 in
theorem supread_off (Z : Nat → Prop) (d : Nat) (st : Dk) (w : World) (hD : DkIn w Z d st) (ho : st.off = true) (hrd : st.reads + 2 ≤ 4611686018427387904) :
    Calls Try.prog 22 #[.pointer (some ⟨d, 0, none⟩)] w fun e w' => e = .returned (.tuple #[blk0.val, .int .i64 8]) ∧ DkIn w' Z d st ∧ Tnd Z Z w w' := by
  have hE : rdE st 0 = 8 := by unfold rdE; rw [if_pos ho]
  have hS : rdS st 0 = st := by unfold rdS; rw [if_neg (by rw [hE]; decide)]
  have hV : rdV st 0 = [] := by unfold rdV; rw [if_neg (by rw [hE]; decide)]
  have HE := Lib.hid hE
  have HS := Lib.hid hS
  have HV := Lib.hid hV
  clear hE hS hV ho
  have hba : Below w.heap.size w ((w.alloc (.cells #[.int .u64 0, .int .i64 0, .int .i64 0, .int .i64 0, .int .i64 0, .int .i64 0, .int .i64 0, .int .i64 0, .int .i64 0, .int .i64 0, .int .i64 0, .int .i64 0, .int .u64 0] 28)).alloc (.cells #[.int .u64 0, .int .i64 0, .int .i64 0, .int .i64 0, .int .i64 0, .int .i64 0, .int .i64 0, .int .i64 0, .int .i64 0, .int .i64 0, .int .i64 0, .int .i64 0, .int .u64 0] 28)) := ((Below.refl _ _).alloc (Nat.le_refl _) _).alloc (by simp) _
  have hrb : ((w.alloc (.cells #[.int .u64 0, .int .i64 0, .int .i64 0, .int .i64 0, .int .i64 0, .int .i64 0, .int .i64 0, .int .i64 0, .int .i64 0, .int .i64 0, .int .i64 0, .int .i64 0, .int .u64 0] 28)).alloc (.cells #[.int .u64 0, .int .i64 0, .int .i64 0, .int .i64 0, .int .i64 0, .int .i64 0, .int .i64 0, .int .i64 0, .int .i64 0, .int .i64 0, .int .i64 0, .int .i64 0, .int .u64 0] 28)).heap[w.heap.size]? = some (.cells #[.int .u64 0, .int .i64 0, .int .i64 0, .int .i64 0, .int .i64 0, .int .i64 0, .int .i64 0, .int .i64 0, .int .i64 0, .int .i64 0, .int .i64 0, .int .i64 0, .int .u64 0] 28 (0, 0)) := by
    rw [heap_old _ _ (by simp)]
    exact heap_alloc_new _ _
  have hmb : ((w.alloc (.cells #[.int .u64 0, .int .i64 0, .int .i64 0, .int .i64 0, .int .i64 0, .int .i64 0, .int .i64 0, .int .i64 0, .int .i64 0, .int .i64 0, .int .i64 0, .int .i64 0, .int .u64 0] 28)).alloc (.cells #[.int .u64 0, .int .i64 0, .int .i64 0, .int .i64 0, .int .i64 0, .int .i64 0, .int .i64 0, .int .i64 0, .int .i64 0, .int .i64 0, .int .i64 0, .int .i64 0, .int .u64 0] 28)).heap[w.heap.size + 1]? = some (.cells #[.int .u64 0, .int .i64 0, .int .i64 0, .int .i64 0, .int .i64 0, .int .i64 0, .int .i64 0, .int .i64 0, .int .i64 0, .int .i64 0, .int .i64 0, .int .i64 0, .int .u64 0] 28 (0, 0)) := by
    have := heap_alloc_new (w.alloc (.cells #[.int .u64 0, .int .i64 0, .int .i64 0, .int .i64 0, .int .i64 0, .int .i64 0, .int .i64 0, .int .i64 0, .int .i64 0, .int .i64 0, .int .i64 0, .int .i64 0, .int .u64 0] 28)) (.cells #[.int .u64 0, .int .i64 0, .int .i64 0, .int .i64 0, .int .i64 0, .int .i64 0, .int .i64 0, .int .i64 0, .int .i64 0, .int .i64 0, .int .i64 0, .int .i64 0, .int .u64 0] 28)
    simpa using this
  have hzl := hD.1
  have HDa := Lib.hid (hD.below hba)
  have HTA := Lib.hid (below_tnd hba Z)
  obtain ⟨rb, hhb⟩ : ∃ rb, w.heap.size = rb := ⟨_, rfl⟩
  obtain ⟨wa, hwa⟩ : ∃ wa, ((w.alloc (.cells #[.int .u64 0, .int .i64 0, .int .i64 0, .int .i64 0, .int .i64 0, .int .i64 0, .int .i64 0, .int .i64 0, .int .i64 0, .int .i64 0, .int .i64 0, .int .i64 0, .int .u64 0] 28)).alloc (.cells #[.int .u64 0, .int .i64 0, .int .i64 0, .int .i64 0, .int .i64 0, .int .i64 0, .int .i64 0, .int .i64 0, .int .i64 0, .int .i64 0, .int .i64 0, .int .i64 0, .int .u64 0] 28)) = wa := ⟨_, rfl⟩
  rw [hwa, hhb] at hrb hmb
  rw [hwa] at HDa HTA
  rw [hhb] at hzl
  have HR0 := Lib.hid hrb
  have HM0 := Lib.hid hmb
  have HHB := Lib.hid hhb
  have HWA := Lib.hid hwa
  have HZ := Lib.hid hzl
  clear hba hrb hmb hhb hwa hzl hD
  go_enter Try.func22, Try.ntmps22
  go_wp2_with fail
  rw [HWA.out, HHB.out]
  go_loopw [5, 11] (fun sm i wr => i = .int .i64 0 ∧ sm = .bool false ∧ Hid (wa = wr)) (fun _ _ _ => 0)
  case atStart => exact ⟨rfl, rfl, rfl⟩
  case round =>
    obtain ⟨rfl, rfl, hww⟩ := hrel
    have e := hww.out
    subst e
    go_wp2_with fail
    refine (read_any Z d st 0 wa HDa.out (by omega) (by omega) (by omega)).mono ?_
    rintro e w1 ⟨v1, rfl, ho1, hd1, ht1⟩
    rw [HE.out]
    rw [HS.out] at hd1
    rw [HV.out] at ho1
    obtain ⟨a1, c1, rfl⟩ := ho1.shapeN 0 rfl
    have D1 := Lib.hid hd1
    have T1 := Lib.hid (HTA.out.trans ht1)
    have HR1 := Lib.hid (row_tnd HR0.out ht1 (fun hz => by have := HZ.out rb hz; omega))
    clear ho1 hd1 ht1
    obtain ⟨r0, r1, r2, r3, r4, r5, r6, r7, r8, r9, r10, r11, r12⟩ := cells13 HR1.out
    have hrf : ∀ i, w1.frozen? ⟨rb, i, none⟩ = false := fun i => frozen_of_row w1 rb i _ _ HR1.out
    go_wp2_with fail
    change bodyPost _ _ _ _ _ (sets w1 rb [(0, .int .u64 0), (1, .int .i64 0), (2, .int .i64 0), (3, .int .i64 0), (4, .int .i64 0), (5, .int .i64 0), (6, .int .i64 0), (7, .int .i64 0), (8, .int .i64 0), (9, .int .i64 0), (10, .int .i64 0), (11, .int .i64 0), (12, .int .u64 0)])
    have hrow := sets_row [(0, .int .u64 0), (1, .int .i64 0), (2, .int .i64 0), (3, .int .i64 0), (4, .int .i64 0), (5, .int .i64 0), (6, .int .i64 0), (7, .int .i64 0), (8, .int .i64 0), (9, .int .i64 0), (10, .int .i64 0), (11, .int .i64 0), (12, .int .u64 0)] HR1.out
    have hg := sets_grown (b := rb) [(0, .int .u64 0), (1, .int .i64 0), (2, .int .i64 0), (3, .int .i64 0), (4, .int .i64 0), (5, .int .i64 0), (6, .int .i64 0), (7, .int .i64 0), (8, .int .i64 0), (9, .int .i64 0), (10, .int .i64 0), (11, .int .i64 0), (12, .int .u64 0)] w1
    have D2 := Lib.hid (D1.out.same (fun x hx => hg.block x (D1.out.1 x hx) (fun e => by injection e with e; have := HZ.out x hx; omega)) hg.size)
    have T2 := Lib.hid (T1.out.trans_at hg (by rw [HHB.out]; omega))
    generalize sets w1 rb [(0, .int .u64 0), (1, .int .i64 0), (2, .int .i64 0), (3, .int .i64 0), (4, .int .i64 0), (5, .int .i64 0), (6, .int .i64 0), (7, .int .i64 0), (8, .int .i64 0), (9, .int .i64 0), (10, .int .i64 0), (11, .int .i64 0), (12, .int .u64 0)] = w19 at *
    rw [fold13] at hrow
    clear r0 r1 r2 r3 r4 r5 r6 r7 r8 r9 r10 r11 r12 hrf hg
    obtain ⟨r0, r1, r2, r3, r4, r5, r6, r7, r8, r9, r10, r11, r12⟩ := cells13 hrow
    refine bodyPost_ret (v := .tuple #[.agg #[.int .u64 0, .int .i64 0, .int .i64 0, .int .i64 0, .int .i64 0, .int .i64 0, .int .i64 0, .int .i64 0, .int .i64 0, .int .i64 0, .int .i64 0, .int .i64 0, .int .u64 0], .int .i64 8]) (by simp [results, Try.results22, go_sem, r0, r1, r2, r3, r4, r5, r6, r7, r8, r9, r10, r11, r12]) rfl ?_
    exact ⟨rfl, D2.out, T2.out⟩
/-- Read's state when k slots have been looked at. -/
structure RdSt (Z : Nat → Prop) (d : Nat) (st : Dk) (w wr : World) (rb k : Nat) (B : Blk) : Prop where
  din : DkIn wr Z d (readN st k)
  tnd : Tnd Z Z w wr
  res : wr.heap[rb]? = some (.cells #[.int .u64 0, .int .i64 0, .int .i64 0, .int .i64 0, .int .i64 0, .int .i64 0, .int .i64 0, .int .i64 0, .int .i64 0, .int .i64 0, .int .i64 0, .int .i64 0, .int .u64 0] 28 (0, 0))
  bst : wr.heap[rb + 1]? = some (.cells B.row 28 (0, 0))
  z : ∀ x, Z x → x < rb
  lo : w.heap.size = rb
section
variable {Z : Nat → Prop} {d : Nat} {st : Dk} {w wr w1 : World} {rb k : Nat} {B : Blk}
theorem RdSt.next (s : RdSt Z d st w wr rb k B) (hb : Below wr.heap.size wr w1) : RdSt Z d st w w1 rb k B :=
  ⟨s.din.below hb, s.tnd.trans (below_tnd hb Z), row_keep s.res hb, row_keep s.bst hb, s.z, s.lo⟩
theorem RdSt.turn {k' : Nat} (s : RdSt Z d st w wr rb k B) (hd : DkIn w1 Z d (readN st k')) (ht : Tnd Z Z wr w1) : RdSt Z d st w w1 rb k' B :=
  ⟨hd, s.tnd.trans ht, row_tnd s.res ht (fun h => by have := s.z _ h; omega), row_tnd s.bst ht (fun h => by have := s.z _ h; omega), s.z, s.lo⟩
theorem RdSt.best {C : Blk} (s : RdSt Z d st w wr rb k B) (L : List (Nat × Value)) (hL : L.foldl (fun c p => c.setIfInBounds p.1 p.2) B.row = C.row) : RdSt Z d st w (sets wr (rb + 1) L) rb k C := by
  have hg := sets_grown (b := rb + 1) L wr
  refine ⟨s.din.same (fun x hx => hg.block x (s.din.1 x hx) (fun e => by injection e with e; have := s.z x hx; omega)) hg.size, s.tnd.trans_at hg (by have := s.lo; omega), (hg.block rb (Array.getElem?_eq_some_iff.1 s.res).1 (fun e => by injection e with e; omega)).trans s.res, by rw [← hL]; exact sets_row L s.bst, s.z, s.lo⟩
theorem RdSt.fin {row : Array Value} (s : RdSt Z d st w wr rb k B) (L : List (Nat × Value)) (hL : L.foldl (fun c p => c.setIfInBounds p.1 p.2) #[.int .u64 0, .int .i64 0, .int .i64 0, .int .i64 0, .int .i64 0, .int .i64 0, .int .i64 0, .int .i64 0, .int .i64 0, .int .i64 0, .int .i64 0, .int .i64 0, .int .u64 0] = row) : (sets wr rb L).heap[rb]? = some (.cells row 28 (0, 0)) ∧ DkIn (sets wr rb L) Z d (readN st k) ∧ Tnd Z Z w (sets wr rb L) := by
  have hg := sets_grown (b := rb) L wr
  exact ⟨by rw [← hL]; exact sets_row L s.res, s.din.same (fun x hx => hg.block x (s.din.1 x hx) (fun e => by injection e with e; have := s.z x hx; omega)) hg.size, s.tnd.trans_at hg (by have := s.lo; omega)⟩
end
set_option linter.unusedSimpArgs false in
set_option linter.unusedVariables false in
set_option maxRecDepth 100000 in
set_option maxHeartbeats 1600000 in
theorem supread_on (Z : Nat → Prop) (d : Nat) (st : Dk) (w : World) (hD : DkIn w Z d st) (ho : st.off = false) (hn : 2 ≤ st.kept.length) (hrd : st.reads + 2 ≤ 4611686018427387904) :
    Calls Try.prog 22 #[.pointer (some ⟨d, 0, none⟩)] w fun e w' => e = .returned (.tuple #[(supRB st).val, .int .i64 (supRE st)]) ∧ DkIn w' Z d (supRS st) ∧ Tnd Z Z w w' := by
  have HOK : Hid (DkOk st) := hD.ok
  have HRE : Hid (∀ k, k < 2 → rdE (readN st k) k = 0 ∧ rdV (readN st k) k = secB st k ∧ rdS (readN st k) k = readN st (k + 1)) := fun k hk => rd_eq ho hn k hk
  have hRS : supRS st = readN st 2 := by unfold supRS; rw [ho]; rfl
  have hREs : supRE st = if bestS st 2 = true then 0 else 20 := by unfold supRE; rw [ho]; rfl
  have hRB : supRB st = if bestS st 2 = true then bestB st 2 else blk0 := by unfold supRB; rw [ho]; rfl
  rw [hRS]
  have HREs := Lib.hid hREs
  have HRBs := Lib.hid hRB
  have HRD := Lib.hid hrd
  clear ho hn hRS hREs hRB hrd
  have hba : Below w.heap.size w ((w.alloc (.cells #[.int .u64 0, .int .i64 0, .int .i64 0, .int .i64 0, .int .i64 0, .int .i64 0, .int .i64 0, .int .i64 0, .int .i64 0, .int .i64 0, .int .i64 0, .int .i64 0, .int .u64 0] 28)).alloc (.cells #[.int .u64 0, .int .i64 0, .int .i64 0, .int .i64 0, .int .i64 0, .int .i64 0, .int .i64 0, .int .i64 0, .int .i64 0, .int .i64 0, .int .i64 0, .int .i64 0, .int .u64 0] 28)) := ((Below.refl _ _).alloc (Nat.le_refl _) _).alloc (by simp) _
  have hrb : ((w.alloc (.cells #[.int .u64 0, .int .i64 0, .int .i64 0, .int .i64 0, .int .i64 0, .int .i64 0, .int .i64 0, .int .i64 0, .int .i64 0, .int .i64 0, .int .i64 0, .int .i64 0, .int .u64 0] 28)).alloc (.cells #[.int .u64 0, .int .i64 0, .int .i64 0, .int .i64 0, .int .i64 0, .int .i64 0, .int .i64 0, .int .i64 0, .int .i64 0, .int .i64 0, .int .i64 0, .int .i64 0, .int .u64 0] 28)).heap[w.heap.size]? = some (.cells #[.int .u64 0, .int .i64 0, .int .i64 0, .int .i64 0, .int .i64 0, .int .i64 0, .int .i64 0, .int .i64 0, .int .i64 0, .int .i64 0, .int .i64 0, .int .i64 0, .int .u64 0] 28 (0, 0)) := by
    rw [heap_old _ _ (by simp)]
    exact heap_alloc_new _ _
  have hmb : ((w.alloc (.cells #[.int .u64 0, .int .i64 0, .int .i64 0, .int .i64 0, .int .i64 0, .int .i64 0, .int .i64 0, .int .i64 0, .int .i64 0, .int .i64 0, .int .i64 0, .int .i64 0, .int .u64 0] 28)).alloc (.cells #[.int .u64 0, .int .i64 0, .int .i64 0, .int .i64 0, .int .i64 0, .int .i64 0, .int .i64 0, .int .i64 0, .int .i64 0, .int .i64 0, .int .i64 0, .int .i64 0, .int .u64 0] 28)).heap[w.heap.size + 1]? = some (.cells #[.int .u64 0, .int .i64 0, .int .i64 0, .int .i64 0, .int .i64 0, .int .i64 0, .int .i64 0, .int .i64 0, .int .i64 0, .int .i64 0, .int .i64 0, .int .i64 0, .int .u64 0] 28 (0, 0)) := by
    have := heap_alloc_new (w.alloc (.cells #[.int .u64 0, .int .i64 0, .int .i64 0, .int .i64 0, .int .i64 0, .int .i64 0, .int .i64 0, .int .i64 0, .int .i64 0, .int .i64 0, .int .i64 0, .int .i64 0, .int .u64 0] 28)) (.cells #[.int .u64 0, .int .i64 0, .int .i64 0, .int .i64 0, .int .i64 0, .int .i64 0, .int .i64 0, .int .i64 0, .int .i64 0, .int .i64 0, .int .i64 0, .int .i64 0, .int .u64 0] 28)
    simpa using this
  have hzl := hD.1
  have HDa := Lib.hid (hD.below hba)
  have HTA := Lib.hid (below_tnd hba Z)
  obtain ⟨rb, hhb⟩ : ∃ rb, w.heap.size = rb := ⟨_, rfl⟩
  obtain ⟨wa, hwa⟩ : ∃ wa, ((w.alloc (.cells #[.int .u64 0, .int .i64 0, .int .i64 0, .int .i64 0, .int .i64 0, .int .i64 0, .int .i64 0, .int .i64 0, .int .i64 0, .int .i64 0, .int .i64 0, .int .i64 0, .int .u64 0] 28)).alloc (.cells #[.int .u64 0, .int .i64 0, .int .i64 0, .int .i64 0, .int .i64 0, .int .i64 0, .int .i64 0, .int .i64 0, .int .i64 0, .int .i64 0, .int .i64 0, .int .i64 0, .int .u64 0] 28)) = wa := ⟨_, rfl⟩
  rw [hwa, hhb] at hrb hmb
  rw [hwa] at HDa HTA
  rw [hhb] at hzl
  have HR0 := Lib.hid hrb
  have HM0 := Lib.hid hmb
  have HHB := Lib.hid hhb
  have HWA := Lib.hid hwa
  have HZ := Lib.hid hzl
  clear hba hrb hmb hhb hwa hzl hD
  have hst0 : RdSt Z d st w wa rb 0 blk0 := ⟨by have := HDa.out; unfold readN; simpa using this, HTA.out, HR0.out, HM0.out, HZ.out, HHB.out⟩
  have ST0 := Lib.hid hst0
  clear hst0
  go_enter Try.func22, Try.ntmps22
  go_wp2_with fail
  rw [HWA.out, HHB.out]
  go_loopw [5, 11] (fun sm i wr => ∃ k : Nat, k ≤ 2 ∧ i = .int .i64 k ∧ sm = .bool (bestS st k) ∧ Hid (RdSt Z d st w wr rb k (bestB st k)) ∧ Hid (bestS st k = true → (bestB st k).Wf ∧ 1 ≤ (bestB st k).c0)) (fun _ i _ => 2 - (intOf i).toNat)
  case atStart => exact ⟨0, by omega, rfl, rfl, ST0, fun h => by cases h⟩
  case round =>
    clear ST0 HDa HTA HR0 HM0
    obtain ⟨k, hk, rfl, rfl, ST, HWB⟩ := hrel
    obtain ⟨SM, hSM⟩ : ∃ x, bestS st k = x := ⟨_, rfl⟩
    obtain ⟨BB, hBB⟩ : ∃ x, bestB st k = x := ⟨_, rfl⟩
    rw [hSM]
    rw [hBB] at ST HWB
    rw [hSM] at HWB
    have HSM := Lib.hid hSM
    have HBB := Lib.hid hBB
    clear hSM hBB
    by_cases hkn : k < 2
    · obtain ⟨q1, q2, q3⟩ := HRE.out k hkn
      have hnext : bestS st (k + 1) = (slotOk st k || SM) ∧ bestB st (k + 1) = if (slotOk st k && (!SM || decide (BB.ep < (slotB st k).ep))) = true then slotB st k else BB := by
        rw [bestS, bestB, HSM.out, HBB.out]
        exact ⟨rfl, rfl⟩
      have HNX := Lib.hid hnext
      have hvl := secB_le HOK.out k
      obtain ⟨V, hV⟩ : ∃ V, secB st k = V := ⟨_, rfl⟩
      rw [hV] at q2 hvl
      have HV := Lib.hid hV
      have Q1 := Lib.hid q1
      have Q2 := Lib.hid q2
      have Q3 := Lib.hid q3
      clear hnext q1 q2 q3 hV
      go_wp2_with fail
      refine (read_any Z d (readN st k) k wr ST.out.din (by omega) (by omega) (by have := HRD.out; show st.reads + (k : Int) + 1 ≤ _; omega)).mono ?_
      rintro e w1 ⟨v1, rfl, ho1, hd1, ht1⟩
      rw [Q1.out]
      rw [Q3.out] at hd1
      rw [Q2.out] at ho1
      obtain ⟨n1, hn1⟩ : ∃ n1, V.length = n1 := ⟨_, rfl⟩
      obtain ⟨a1, c1, rfl⟩ := ho1.shapeN n1 hn1
      rw [hn1] at hvl
      have ST1 := Lib.hid (ST.out.turn hd1 ht1)
      have O1 := Lib.hid ho1.rd
      clear ho1 hd1 ht1 hn1 ST
      go_wp2_with fail
      refine (supdec_any a1 n1 c1 V w1 O1.out (by omega)).mono ?_
      rintro e w2 ⟨rfl, hb2⟩
      have ST2 := Lib.hid (ST1.out.next hb2)
      obtain ⟨E2, hE2⟩ : ∃ x, supDE V = x := ⟨_, rfl⟩
      obtain ⟨C2, hC2⟩ : ∃ x, supD V = x := ⟨_, rfl⟩
      have hwf : E2 = 0 → C2.Wf ∧ 1 ≤ C2.c0 := fun h => by
        rw [← hC2]
        obtain ⟨h1, h3, _⟩ := supD_yes O1.out.bytes (by rw [hE2, h])
        exact ⟨h1, by have := chk_c0 (supE_ok h3).2.1; omega⟩
      have hsl : slotOk st k = (decide (E2 = 0) && decide (C2.ep % 2 = k) && fitB st C2) := by unfold slotOk slotB; rw [HV.out, hE2, hC2]
      have hsb : slotB st k = C2 := by unfold slotB; rw [HV.out, hC2]
      rw [hE2, hC2]
      have HWF := Lib.hid hwf
      have HSL := Lib.hid hsl
      have HSB := Lib.hid hsb
      clear hb2 hE2 hC2 hwf hsl hsb ST1
      obtain ⟨e9, g0, g1, g2, g3, g4, g5, g6, g7, g8, gs, gn, gq⟩ := C2
      rw [show (⟨e9, g0, g1, g2, g3, g4, g5, g6, g7, g8, gs, gn, gq⟩ : Blk).val = .agg #[.int .u64 e9, .int .i64 g0, .int .i64 g1, .int .i64 g2, .int .i64 g3, .int .i64 g4, .int .i64 g5, .int .i64 g6, .int .i64 g7, .int .i64 g8, .int .i64 gs, .int .i64 gn, .int .u64 gq] from rfl]
      have hal := (Below.refl w2.heap.size w2).alloc (Nat.le_refl _) (.cells #[.int .u64 e9, .int .i64 g0, .int .i64 g1, .int .i64 g2, .int .i64 g3, .int .i64 g4, .int .i64 g5, .int .i64 g6, .int .i64 g7, .int .i64 g8, .int .i64 gs, .int .i64 gn, .int .u64 gq] 28)
      have ST3 := Lib.hid (ST2.out.next hal)
      have hxr := heap_alloc_new w2 (.cells #[.int .u64 e9, .int .i64 g0, .int .i64 g1, .int .i64 g2, .int .i64 g3, .int .i64 g4, .int .i64 g5, .int .i64 g6, .int .i64 g7, .int .i64 g8, .int .i64 gs, .int .i64 gn, .int .u64 gq] 28)
      obtain ⟨w3, hw3⟩ : ∃ w3, w2.alloc (.cells #[.int .u64 e9, .int .i64 g0, .int .i64 g1, .int .i64 g2, .int .i64 g3, .int .i64 g4, .int .i64 g5, .int .i64 g6, .int .i64 g7, .int .i64 g8, .int .i64 gs, .int .i64 gn, .int .u64 gq] 28) = w3 := ⟨_, rfl⟩
      obtain ⟨xb, hxb⟩ : ∃ xb, w2.heap.size = xb := ⟨_, rfl⟩
      rw [hw3] at ST3
      rw [hw3, hxb] at hxr
      have HW3 := Lib.hid hw3
      have HXB := Lib.hid hxb
      have XR3 := Lib.hid hxr
      have HXL : Hid (rb + 1 < xb) := by show _ < _; rw [← hxb]; exact (Array.getElem?_eq_some_iff.1 ST2.out.bst).1
      clear hal hxr hw3 hxb ST2
      by_cases h2 : E2 = 0
      rotate_left
      · have d2 : (E2 != 0) = true := by simpa using h2
        have HS1 : Hid (slotOk st k = false) := by show _ = _; rw [HSL.out, decide_eq_false h2]; rfl
        clear h2
        go_wp2_with fail
        rw [HW3.out]
        have HN : Hid (bestS st (k + 1) = SM ∧ bestB st (k + 1) = BB) := by
          show _ ∧ _
          rw [HNX.out.1, HNX.out.2, HS1.out]
          exact ⟨rfl, rfl⟩
        go_roundw
        case rel => exact ⟨k + 1, by omega, by go_num, by rw [HN.out.1], by rw [HN.out.2]; exact ST3, by rw [HN.out.1, HN.out.2]; exact HWB.out⟩
        case measure => simp [intOf] <;> omega
      subst h2
      have HWF1 := Lib.hid (HWF.out rfl)
      obtain ⟨he1, he2⟩ := HWF1.out.1.ep
      replace he1 : 0 ≤ e9 := he1
      replace he2 : e9 ≤ 18446744073709551615 := he2
      have hm2 : 0 ≤ e9 % 2 ∧ e9 % 2 ≤ 1 := by omega
      by_cases h4 : e9 % 2 = k
      rotate_left
      · have d4 : (e9 % 2 != (k : Int)) = true := by simpa using h4
        have HS1 : Hid (slotOk st k = false) := by show _ = _; rw [HSL.out, decide_eq_false (show ¬ (⟨e9, g0, g1, g2, g3, g4, g5, g6, g7, g8, gs, gn, gq⟩ : Blk).ep % 2 = k from h4), Bool.and_false]; rfl
        clear h4
        go_wp2_with (go_at_call 16; refine (slot_any e9 _ ⟨he1, he2⟩).mono ?_; rintro e w' ⟨rfl, rfl⟩)
        rw [HW3.out]
        have HN : Hid (bestS st (k + 1) = SM ∧ bestB st (k + 1) = BB) := by
          show _ ∧ _
          rw [HNX.out.1, HNX.out.2, HS1.out]
          exact ⟨rfl, rfl⟩
        go_roundw
        case rel => exact ⟨k + 1, by omega, by go_num, by rw [HN.out.1], by rw [HN.out.2]; exact ST3, by rw [HN.out.1, HN.out.2]; exact HWB.out⟩
        case measure => simp [intOf] <;> omega
      have d4 : (e9 % 2 != (k : Int)) = false := by simpa using h4
      have H4 := Lib.hid h4
      clear h4
      obtain ⟨FB, hFB⟩ : ∃ x, fitB st ⟨e9, g0, g1, g2, g3, g4, g5, g6, g7, g8, gs, gn, gq⟩ = x := ⟨_, rfl⟩
      have HFI := Lib.hid (fits_any Z d (readN st (k + 1)) ⟨e9, g0, g1, g2, g3, g4, g5, g6, g7, g8, gs, gn, gq⟩ w3 ST3.out.din)
      rw [show fitB (readN st (k + 1)) ⟨e9, g0, g1, g2, g3, g4, g5, g6, g7, g8, gs, gn, gq⟩ = FB from hFB] at HFI
      have HS2 : Hid (slotOk st k = FB) := by show _ = _; rw [HSL.out, hFB, decide_eq_true (show (⟨e9, g0, g1, g2, g3, g4, g5, g6, g7, g8, gs, gn, gq⟩ : Blk).ep % 2 = k from H4.out)]; rfl
      clear hFB
      go_wp2_with (go_at_call 16; refine (slot_any e9 _ ⟨he1, he2⟩).mono ?_; rintro e w' ⟨rfl, rfl⟩)
      rw [HW3.out]
      refine HFI.out.mono ?_
      rintro e w4 ⟨rfl, hb4⟩
      have ST4 := Lib.hid (ST3.out.next hb4)
      have XR4 := Lib.hid (row_keep XR3.out hb4)
      clear hb4 ST3
      cases FB with
      | false =>
        have HS1 := HS2
        go_wp2_with fail
        have HN : Hid (bestS st (k + 1) = SM ∧ bestB st (k + 1) = BB) := by
          show _ ∧ _
          rw [HNX.out.1, HNX.out.2, HS1.out]
          exact ⟨rfl, rfl⟩
        go_roundw
        case rel => exact ⟨k + 1, by omega, by go_num, by rw [HN.out.1], by rw [HN.out.2]; exact ST4, by rw [HN.out.1, HN.out.2]; exact HWB.out⟩
        case measure => simp [intOf] <;> omega
      | true =>
        rw [HXB.out]
        obtain ⟨r0, r1, r2, r3, r4, r5, r6, r7, r8, r9, r10, r11, r12⟩ := cells13 XR4.out
        cases SM with
        | false =>
          obtain ⟨q0, q1, q2, q3, q4, q5, q6, q7, q8, q9, q10, q11, q12⟩ := cells13 ST4.out.bst
          have hbf : ∀ i, w4.frozen? ⟨rb + 1, i, none⟩ = false := fun i => frozen_of_row w4 (rb + 1) i _ _ ST4.out.bst
          go_wp2_with fail
          have ST5 := Lib.hid (ST4.out.best (C := ⟨e9, g0, g1, g2, g3, g4, g5, g6, g7, g8, gs, gn, gq⟩) [(0, .int .u64 e9), (1, .int .i64 g0), (2, .int .i64 g1), (3, .int .i64 g2), (4, .int .i64 g3), (5, .int .i64 g4), (6, .int .i64 g5), (7, .int .i64 g6), (8, .int .i64 g7), (9, .int .i64 g8), (10, .int .i64 gs), (11, .int .i64 gn), (12, .int .u64 gq)] (by unfold Blk.row; exact fold13 _ _ _ _ _ _ _ _ _ _ _ _ _ _ _ _ _ _ _ _ _ _ _ _ _ _))
          have HN : Hid (bestS st (k + 1) = true ∧ bestB st (k + 1) = ⟨e9, g0, g1, g2, g3, g4, g5, g6, g7, g8, gs, gn, gq⟩) := by
            show _ ∧ _
            rw [HNX.out.1, HNX.out.2, HS2.out, HSB.out]
            exact ⟨rfl, rfl⟩
          clear r0 r1 r2 r3 r4 r5 r6 r7 r8 r9 r10 r11 r12 q0 q1 q2 q3 q4 q5 q6 q7 q8 q9 q10 q11 q12 hbf
          go_roundw
          case rel => exact ⟨k + 1, by omega, by go_num, by rw [HN.out.1], by rw [HN.out.2]; exact ST5, by rw [HN.out.2]; exact fun _ => HWF1.out⟩
          case measure => simp [intOf] <;> omega
        | true =>
          have HWB1 := Lib.hid (HWB.out rfl)
          obtain ⟨m0, n0, n1, n2, n3, n4, n5, n6, n7, n8, ns, nn, nq⟩ := BB
          obtain ⟨q0, q1, q2, q3, q4, q5, q6, q7, q8, q9, q10, q11, q12⟩ := cells13 ST4.out.bst
          have HNW := Lib.hid (newer_any ⟨e9, g0, g1, g2, g3, g4, g5, g6, g7, g8, gs, gn, gq⟩ ⟨m0, n0, n1, n2, n3, n4, n5, n6, n7, n8, ns, nn, nq⟩ w4)
          obtain ⟨D, hD⟩ : ∃ D : Bool, decide ((⟨m0, n0, n1, n2, n3, n4, n5, n6, n7, n8, ns, nn, nq⟩ : Blk).ep < (⟨e9, g0, g1, g2, g3, g4, g5, g6, g7, g8, gs, gn, gq⟩ : Blk).ep) = D := ⟨_, rfl⟩
          rw [hD] at HNW
          have HD := Lib.hid hD
          clear hD
          go_wp2_with fail
          refine HNW.out.mono ?_
          rintro e w5 ⟨rfl, hb5⟩
          have ST5 := Lib.hid (ST4.out.next hb5)
          have XR5 := Lib.hid (row_keep XR4.out hb5)
          clear hb5 r0 r1 r2 r3 r4 r5 r6 r7 r8 r9 r10 r11 r12 q0 q1 q2 q3 q4 q5 q6 q7 q8 q9 q10 q11 q12 ST4 XR4
          have HN1 : Hid (bestS st (k + 1) = true ∧ bestB st (k + 1) = if D = true then ⟨e9, g0, g1, g2, g3, g4, g5, g6, g7, g8, gs, gn, gq⟩ else ⟨m0, n0, n1, n2, n3, n4, n5, n6, n7, n8, ns, nn, nq⟩) := by
            show _ ∧ _
            rw [HNX.out.1, HNX.out.2, HS2.out, HSB.out, HD.out]
            exact ⟨rfl, by cases D <;> rfl⟩
          cases D with
          | true =>
            obtain ⟨r0, r1, r2, r3, r4, r5, r6, r7, r8, r9, r10, r11, r12⟩ := cells13 XR5.out
            obtain ⟨q0, q1, q2, q3, q4, q5, q6, q7, q8, q9, q10, q11, q12⟩ := cells13 ST5.out.bst
            have hbf : ∀ i, w5.frozen? ⟨rb + 1, i, none⟩ = false := fun i => frozen_of_row w5 (rb + 1) i _ _ ST5.out.bst
            go_wp2_with fail
            have ST6 := Lib.hid (ST5.out.best (C := ⟨e9, g0, g1, g2, g3, g4, g5, g6, g7, g8, gs, gn, gq⟩) [(0, .int .u64 e9), (1, .int .i64 g0), (2, .int .i64 g1), (3, .int .i64 g2), (4, .int .i64 g3), (5, .int .i64 g4), (6, .int .i64 g5), (7, .int .i64 g6), (8, .int .i64 g7), (9, .int .i64 g8), (10, .int .i64 gs), (11, .int .i64 gn), (12, .int .u64 gq)] (by unfold Blk.row; exact fold13 _ _ _ _ _ _ _ _ _ _ _ _ _ _ _ _ _ _ _ _ _ _ _ _ _ _))
            clear r0 r1 r2 r3 r4 r5 r6 r7 r8 r9 r10 r11 r12 q0 q1 q2 q3 q4 q5 q6 q7 q8 q9 q10 q11 q12 hbf
            go_roundw
            case rel => exact ⟨k + 1, by omega, by go_num, by rw [HN1.out.1], by rw [HN1.out.2]; exact ST6, by rw [HN1.out.2]; exact fun _ => HWF1.out⟩
            case measure => simp [intOf] <;> omega
          | false =>
            go_wp2_with fail
            go_roundw
            case rel => exact ⟨k + 1, by omega, by go_num, by rw [HN1.out.1], by rw [HN1.out.2]; exact ST5, by rw [HN1.out.2]; exact fun _ => HWB1.out⟩
            case measure => simp [intOf] <;> omega
    · obtain rfl : k = 2 := by omega
      cases SM with
      | false =>
        obtain ⟨r0, r1, r2, r3, r4, r5, r6, r7, r8, r9, r10, r11, r12⟩ := cells13 ST.out.res
        have hrf : ∀ i, wr.frozen? ⟨rb, i, none⟩ = false := fun i => frozen_of_row wr rb i _ _ ST.out.res
        go_wp2_with fail
        change bodyPost _ _ _ _ _ (sets wr rb [(0, .int .u64 0), (1, .int .i64 0), (2, .int .i64 0), (3, .int .i64 0), (4, .int .i64 0), (5, .int .i64 0), (6, .int .i64 0), (7, .int .i64 0), (8, .int .i64 0), (9, .int .i64 0), (10, .int .i64 0), (11, .int .i64 0), (12, .int .u64 0)])
        obtain ⟨hrow, hdin, htnd⟩ := ST.out.fin [(0, .int .u64 0), (1, .int .i64 0), (2, .int .i64 0), (3, .int .i64 0), (4, .int .i64 0), (5, .int .i64 0), (6, .int .i64 0), (7, .int .i64 0), (8, .int .i64 0), (9, .int .i64 0), (10, .int .i64 0), (11, .int .i64 0), (12, .int .u64 0)] (fold13 _ _ _ _ _ _ _ _ _ _ _ _ _ _ _ _ _ _ _ _ _ _ _ _ _ _)
        generalize sets wr rb [(0, .int .u64 0), (1, .int .i64 0), (2, .int .i64 0), (3, .int .i64 0), (4, .int .i64 0), (5, .int .i64 0), (6, .int .i64 0), (7, .int .i64 0), (8, .int .i64 0), (9, .int .i64 0), (10, .int .i64 0), (11, .int .i64 0), (12, .int .u64 0)] = w19 at *
        clear r0 r1 r2 r3 r4 r5 r6 r7 r8 r9 r10 r11 r12 hrf
        obtain ⟨r0, r1, r2, r3, r4, r5, r6, r7, r8, r9, r10, r11, r12⟩ := cells13 hrow
        refine bodyPost_ret (v := .tuple #[.agg #[.int .u64 0, .int .i64 0, .int .i64 0, .int .i64 0, .int .i64 0, .int .i64 0, .int .i64 0, .int .i64 0, .int .i64 0, .int .i64 0, .int .i64 0, .int .i64 0, .int .u64 0], .int .i64 20]) (by simp [results, Try.results22, go_sem, r0, r1, r2, r3, r4, r5, r6, r7, r8, r9, r10, r11, r12]) rfl ?_
        rw [HREs.out, HRBs.out, HSM.out]
        exact ⟨rfl, hdin, htnd⟩
      | true =>
        obtain ⟨hbw, hbc⟩ := HWB.out rfl
        obtain ⟨m0, n0, n1, n2, n3, n4, n5, n6, n7, n8, ns, nn, nq⟩ := BB
        replace hbc : 1 ≤ n0 := hbc
        have hn0 : (n0 == 0) = false := by rw [beq_eq_false_iff_ne]; omega
        have HK1 : Hid (∀ w1, Calls Try.prog 14 #[.agg #[.int .u64 m0, .int .i64 n0, .int .i64 n1, .int .i64 n2, .int .i64 n3, .int .i64 n4, .int .i64 n5, .int .i64 n6, .int .i64 n7, .int .i64 n8, .int .i64 ns, .int .i64 nn, .int .u64 nq]] w1 fun e w' => e = .returned (keyV (keyL ⟨m0, n0, n1, n2, n3, n4, n5, n6, n7, n8, ns, nn, nq⟩)) ∧ Below w1.heap.size w1 w') := fun w1 => key_any ⟨m0, n0, n1, n2, n3, n4, n5, n6, n7, n8, ns, nn, nq⟩ w1 hbw
        have HK2 : Hid (∀ w1, Calls Try.prog 14 #[.agg #[.int .u64 0, .int .i64 0, .int .i64 0, .int .i64 0, .int .i64 0, .int .i64 0, .int .i64 0, .int .i64 0, .int .i64 0, .int .i64 0, .int .i64 0, .int .i64 0, .int .u64 0]] w1 fun e w' => e = .returned (.agg #[.int .u8 0, .int .u8 0, .int .u8 0, .int .u8 0]) ∧ Below w1.heap.size w1 w') := fun w1 => key_any blk0 w1 blk0_wf
        obtain ⟨y0, y1, y2, y3, hky⟩ := key_four ⟨m0, n0, n1, n2, n3, n4, n5, n6, n7, n8, ns, nn, nq⟩
        rw [hky] at HK1
        replace HK1 : Hid (∀ w1, Calls Try.prog 14 #[.agg #[.int .u64 m0, .int .i64 n0, .int .i64 n1, .int .i64 n2, .int .i64 n3, .int .i64 n4, .int .i64 n5, .int .i64 n6, .int .i64 n7, .int .i64 n8, .int .i64 ns, .int .i64 nn, .int .u64 nq]] w1 fun e w' => e = .returned (.agg #[.int .u8 y0, .int .u8 y1, .int .u8 y2, .int .u8 y3]) ∧ Below w1.heap.size w1 w') := HK1
        clear hky hbw
        obtain ⟨q0, q1, q2, q3, q4, q5, q6, q7, q8, q9, q10, q11, q12⟩ := cells13 ST.out.bst
        go_wp2_with fail
        refine (HK1.out wr).mono ?_
        rintro e w1 ⟨rfl, hb1⟩
        have ST1 := Lib.hid (ST.out.next hb1)
        clear q0 q1 q2 q3 q4 q5 q6 q7 q8 q9 q10 q11 q12 hb1 ST
        go_wp2_with fail
        refine (HK2.out w1).mono ?_
        rintro e w2 ⟨rfl, hb2⟩
        have ST2 := Lib.hid (ST1.out.next hb2)
        clear hb2 ST1
        obtain ⟨q0, q1, q2, q3, q4, q5, q6, q7, q8, q9, q10, q11, q12⟩ := cells13 ST2.out.bst
        obtain ⟨r0, r1, r2, r3, r4, r5, r6, r7, r8, r9, r10, r11, r12⟩ := cells13 ST2.out.res
        have hrf : ∀ i, w2.frozen? ⟨rb, i, none⟩ = false := fun i => frozen_of_row w2 rb i _ _ ST2.out.res
        go_wp2_with fail
        rw [eq_four w2 y0 y1 y2 y3 0 0 0 0]
        simp only [Result.andThen_ok]
        generalize (y0 == 0 && (y1 == 0 && (y2 == 0 && y3 == 0))) = eq4
        cases eq4 with
        | false =>
          go_wp2_with fail
          change bodyPost _ _ _ _ _ (sets w2 rb [(0, .int .u64 m0), (1, .int .i64 n0), (2, .int .i64 n1), (3, .int .i64 n2), (4, .int .i64 n3), (5, .int .i64 n4), (6, .int .i64 n5), (7, .int .i64 n6), (8, .int .i64 n7), (9, .int .i64 n8), (10, .int .i64 ns), (11, .int .i64 nn), (12, .int .u64 nq)])
          obtain ⟨hrow, hdin, htnd⟩ := ST2.out.fin [(0, .int .u64 m0), (1, .int .i64 n0), (2, .int .i64 n1), (3, .int .i64 n2), (4, .int .i64 n3), (5, .int .i64 n4), (6, .int .i64 n5), (7, .int .i64 n6), (8, .int .i64 n7), (9, .int .i64 n8), (10, .int .i64 ns), (11, .int .i64 nn), (12, .int .u64 nq)] (fold13 _ _ _ _ _ _ _ _ _ _ _ _ _ _ _ _ _ _ _ _ _ _ _ _ _ _)
          generalize sets w2 rb [(0, .int .u64 m0), (1, .int .i64 n0), (2, .int .i64 n1), (3, .int .i64 n2), (4, .int .i64 n3), (5, .int .i64 n4), (6, .int .i64 n5), (7, .int .i64 n6), (8, .int .i64 n7), (9, .int .i64 n8), (10, .int .i64 ns), (11, .int .i64 nn), (12, .int .u64 nq)] = w19 at *
          clear r0 r1 r2 r3 r4 r5 r6 r7 r8 r9 r10 r11 r12 q0 q1 q2 q3 q4 q5 q6 q7 q8 q9 q10 q11 q12 hrf
          obtain ⟨r0, r1, r2, r3, r4, r5, r6, r7, r8, r9, r10, r11, r12⟩ := cells13 hrow
          refine bodyPost_ret (v := .tuple #[.agg #[.int .u64 m0, .int .i64 n0, .int .i64 n1, .int .i64 n2, .int .i64 n3, .int .i64 n4, .int .i64 n5, .int .i64 n6, .int .i64 n7, .int .i64 n8, .int .i64 ns, .int .i64 nn, .int .u64 nq], .int .i64 0]) (by simp [results, Try.results22, go_sem, r0, r1, r2, r3, r4, r5, r6, r7, r8, r9, r10, r11, r12]) rfl ?_
          rw [HREs.out, HRBs.out, HSM.out, if_pos rfl, if_pos rfl, HBB.out]
          exact ⟨rfl, hdin, htnd⟩
        | true =>
          go_wp2_with fail
          change bodyPost _ _ _ _ _ (sets w2 rb [(0, .int .u64 m0), (1, .int .i64 n0), (2, .int .i64 n1), (3, .int .i64 n2), (4, .int .i64 n3), (5, .int .i64 n4), (6, .int .i64 n5), (7, .int .i64 n6), (8, .int .i64 n7), (9, .int .i64 n8), (10, .int .i64 ns), (11, .int .i64 nn), (12, .int .u64 nq)])
          obtain ⟨hrow, hdin, htnd⟩ := ST2.out.fin [(0, .int .u64 m0), (1, .int .i64 n0), (2, .int .i64 n1), (3, .int .i64 n2), (4, .int .i64 n3), (5, .int .i64 n4), (6, .int .i64 n5), (7, .int .i64 n6), (8, .int .i64 n7), (9, .int .i64 n8), (10, .int .i64 ns), (11, .int .i64 nn), (12, .int .u64 nq)] (fold13 _ _ _ _ _ _ _ _ _ _ _ _ _ _ _ _ _ _ _ _ _ _ _ _ _ _)
          generalize sets w2 rb [(0, .int .u64 m0), (1, .int .i64 n0), (2, .int .i64 n1), (3, .int .i64 n2), (4, .int .i64 n3), (5, .int .i64 n4), (6, .int .i64 n5), (7, .int .i64 n6), (8, .int .i64 n7), (9, .int .i64 n8), (10, .int .i64 ns), (11, .int .i64 nn), (12, .int .u64 nq)] = w19 at *
          clear r0 r1 r2 r3 r4 r5 r6 r7 r8 r9 r10 r11 r12 q0 q1 q2 q3 q4 q5 q6 q7 q8 q9 q10 q11 q12 hrf
          obtain ⟨r0, r1, r2, r3, r4, r5, r6, r7, r8, r9, r10, r11, r12⟩ := cells13 hrow
          refine bodyPost_ret (v := .tuple #[.agg #[.int .u64 m0, .int .i64 n0, .int .i64 n1, .int .i64 n2, .int .i64 n3, .int .i64 n4, .int .i64 n5, .int .i64 n6, .int .i64 n7, .int .i64 n8, .int .i64 ns, .int .i64 nn, .int .u64 nq], .int .i64 0]) (by simp [results, Try.results22, go_sem, r0, r1, r2, r3, r4, r5, r6, r7, r8, r9, r10, r11, r12]) rfl ?_
          rw [HREs.out, HRBs.out, HSM.out, if_pos rfl, if_pos rfl, HBB.out]
          exact ⟨rfl, hdin, htnd⟩
set_option maxRecDepth 100000 in
theorem supread_any (Z : Nat → Prop) (d : Nat) (st : Dk) (w : World) (hD : DkIn w Z d st) (hn : 2 ≤ st.kept.length) (hrd : st.reads + 2 ≤ 4611686018427387904) :
    Calls Try.prog 22 #[.pointer (some ⟨d, 0, none⟩)] w fun e w' => e = .returned (.tuple #[(supRB st).val, .int .i64 (supRE st)]) ∧ DkIn w' Z d (supRS st) ∧ Tnd Z Z w w' := by
  cases ho : st.off with
  | false => exact supread_on Z d st w hD ho hn hrd
  | true =>
    have e1 : supRE st = 8 := by unfold supRE; rw [if_pos ho]
    have e2 : supRB st = blk0 := by unfold supRB; rw [if_pos ho]
    have e3 : supRS st = st := by unfold supRS; rw [if_pos ho]
    rw [e1, e2, e3]
    exact supread_off Z d st w hD ho hrd
end Go.Proofs.Ytcbnebcooiagmaa
namespace Go.Proofs.Ytcbnebcooiagmaa
open Go.RowKit
set_option linter.unusedSimpArgs false in
set_option linter.unusedVariables false in
set_option maxRecDepth 100000 in
theorem of_any (b : Blk) (w : World) : Calls Try.prog 11 #[b.val] w fun e w' => e = .returned b.val ∧ Below w.heap.size w w' := by
  obtain ⟨e0, x1, x2, x3, x4, x5, x6, x7, x8, x9, x10, x11, x12⟩ := b
  unfold Blk.val
  go_enter Try.func11, Try.ntmps11
  go_wp2_with fail
  refine bodyPost_ret (v := .agg #[.int .u64 e0, .int .i64 x1, .int .i64 x2, .int .i64 x3, .int .i64 x4, .int .i64 x5, .int .i64 x6, .int .i64 x7, .int .i64 x8, .int .i64 x9, .int .i64 x10, .int .i64 x11, .int .u64 x12]) (by simp [results, Try.results11, go_sem]) rfl ?_
  exact ⟨rfl, ((Below.refl _ _).alloc (Nat.le_refl _) _).alloc (by simp) _⟩
set_option linter.unusedSimpArgs false in
set_option linter.unusedVariables false in
set_option maxRecDepth 100000 in
theorem shape20_any (w : World) : Calls Try.prog 20 #[] w fun e w' => e = .returned (.agg #[.int .i64 40, .int .i64 128, .int .i64 4, .int .i64 2, .int .i64 16, .int .i64 4, .int .i64 2, .int .i64 2, .int .i64 4]) ∧ Below w.heap.size w w' := by
  go_enter Try.func20, Try.ntmps20
  go_wp2_with fail
  refine bodyPost_ret (v := .agg #[.int .i64 40, .int .i64 128, .int .i64 4, .int .i64 2, .int .i64 16, .int .i64 4, .int .i64 2, .int .i64 2, .int .i64 4]) (by simp [results, Try.results20, go_sem]) rfl ?_
  exact ⟨rfl, (Below.refl _ _).alloc (Nat.le_refl _) _⟩
/-- The disk when a block has been put into a slot, and nothing is pending. -/
def putK (st : Dk) (s : Int) (l : List Int) : Dk := { st with armed := if st.armed = 0 then 0 else st.armed - 1, kept := st.kept.set s.toNat l, writes := st.writes + 1 }
theorem wrote {st : Dk} {b : Blk} (hp : st.pend = []) (he : supE b = 0) (hf : fitB st b = true) (ho : st.off = false) (ha : st.armed ≠ 1) : supWE st b = 0 ∧ supWS st b = putK st (b.ep % 2) (supV b) := by
  unfold supWE supWS
  simp only [he, hf, ho, ha, ne_eq, not_true_eq_false, if_false, Bool.false_eq_true, Bool.true_eq_false]
  refine ⟨trivial, ?_⟩
  unfold flushS putS putK
  rw [hp]
  simp [settleK]
theorem secB_kept {st : Dk} (hp : st.pend = []) (i : Nat) : secB st i = (st.kept[i]?).getD [] := by
  unfold secB
  rw [hp]
  rfl
theorem slot_of {st : Dk} {i : Nat} {b : Blk} (hs : secB st i = supV b) (hw : b.Wf) (he : supE b = 0) (hf : fitB st b = true) (hi : b.ep % 2 = i) : slotOk st i = true ∧ slotB st i = b := by
  obtain ⟨h1, h2⟩ := sup_read hw he
  have e : slotB st i = b := by unfold slotB; rw [hs, h2]
  refine ⟨?_, e⟩
  unfold slotOk
  rw [e, hs, h1, hf, hi]
  simp
theorem supV_head {b : Blk} (h : supE b = 0) : ∃ r, supV b = 65 :: r := by
  unfold supV
  rw [if_pos h]
  unfold sealL supZ supOut supHead magicL
  exact ⟨_, rfl⟩
theorem zero_no (n : Nat) : supDE (List.replicate n 0) ≠ 0 := fun h => by
  obtain ⟨_, h2, h3⟩ := supD_yes (fun y hy => by rw [List.eq_of_mem_replicate hy]; decide) h
  obtain ⟨r, hr⟩ := supV_head h2
  rw [hr] at h3
  have : (65 : Int) ∈ List.replicate n 0 := by rw [← h3]; simp
  exact absurd (List.eq_of_mem_replicate this) (by decide)
theorem slot_zero {st : Dk} {i n : Nat} (hs : secB st i = List.replicate n 0) : slotOk st i = false := by
  unfold slotOk
  rw [hs, decide_eq_false (zero_no n)]
  rfl
theorem best2 (st : Dk) : bestS st 2 = (slotOk st 1 || slotOk st 0) ∧ bestB st 2 = if (slotOk st 1 && (!slotOk st 0 || decide ((slotB st 0).ep < (slotB st 1).ep))) = true then slotB st 1 else if slotOk st 0 = true then slotB st 0 else blk0 := by
  refine ⟨by simp [bestS], ?_⟩
  simp only [bestB, bestS, Bool.or_false, Bool.not_false, Bool.true_or, Bool.and_true]
  cases h0 : slotOk st 0 <;> simp
end Go.Proofs.Ytcbnebcooiagmaa
namespace Go.Proofs.Ytcbnebcooiagmaa
open Go.RowKit
def KB : Blk := ⟨3, 40, 128, 4, 2, 16, 4, 2, 2, 4, 0, 0, 1⟩
def K0 : Dk := dk0 40 128
theorem kb_wf : KB.Wf := ⟨by decide, by decide, by decide, by decide, by decide, by decide, by decide, by decide, by decide, by decide, by decide, by decide, by decide⟩
set_option maxRecDepth 100000 in
theorem kb_ok : supE KB = 0 := by kernel_rfl
theorem kb_fit : fitB K0 KB = true := by kernel_rfl
theorem r40 : rightB 40 128 = true := by decide
def K1 : Dk := putK K0 1 (supV KB)
theorem k1_at : K1.kept = (List.replicate 40 (List.replicate 128 0)).set 1 (supV KB) := rfl
theorem k1_sec : secB K1 1 = supV KB ∧ secB K1 0 = List.replicate 128 0 := by
  rw [secB_kept rfl, secB_kept rfl, k1_at]
  exact ⟨rfl, rfl⟩
theorem k1_fit : fitB K1 KB = true := by
  unfold fitB
  rw [k1_at, List.length_set]
  kernel_rfl
theorem k1_best : bestS K1 2 = true ∧ bestB K1 2 = KB := by
  obtain ⟨h1, h2⟩ := slot_of (i := 1) k1_sec.1 kb_wf kb_ok k1_fit rfl
  have h0 := slot_zero (i := 0) k1_sec.2
  obtain ⟨e1, e2⟩ := best2 K1
  rw [h1, h0] at e1 e2
  exact ⟨e1, by rw [e2, h2]; rfl⟩
theorem k1_read : supRE K1 = 0 ∧ supRB K1 = KB ∧ supRS K1 = readN K1 2 := by
  have ho : K1.off = false := rfl
  unfold supRE supRB supRS
  rw [ho, k1_best.1, k1_best.2]
  exact ⟨rfl, rfl, rfl⟩
theorem k1_rd : rdV (readN K1 2) 1 = supV KB := by
  have h : rdE (readN K1 2) 1 = 0 := rfl
  unfold rdV
  rw [if_pos h]
  exact k1_sec.1
set_option linter.unusedSimpArgs false in
set_option linter.unusedVariables false in
set_option maxRecDepth 100000 in
set_option maxHeartbeats 2000000 in
theorem known20 (w : World) : Calls Try.prog 8 #[] w fun e w' => e = .returned (.bool true) ∧ Below w.heap.size w w' := by
  go_enter Try.func8, Try.ntmps8
  go_wp2_with fail
  refine (shape20_any _).mono ?_
  rintro e w1 ⟨rfl, hb1⟩
  have hal := (Below.refl w1.heap.size w1).alloc (Nat.le_refl _) (.cells #[.int .i64 40, .int .i64 128, .int .i64 4, .int .i64 2, .int .i64 16, .int .i64 4, .int .i64 2, .int .i64 2, .int .i64 4] 24)
  have hrow := heap_alloc_new w1 (.cells #[.int .i64 40, .int .i64 128, .int .i64 4, .int .i64 2, .int .i64 16, .int .i64 4, .int .i64 2, .int .i64 2, .int .i64 4] 24)
  obtain ⟨wa, hwa⟩ : ∃ wa, w1.alloc (.cells #[.int .i64 40, .int .i64 128, .int .i64 4, .int .i64 2, .int .i64 16, .int .i64 4, .int .i64 2, .int .i64 2, .int .i64 4] 24) = wa := ⟨_, rfl⟩
  obtain ⟨cb, hcb⟩ : ∃ cb, w1.heap.size = cb := ⟨_, rfl⟩
  have BA := Lib.hid (Below.call hb1 (by rw [hwa] at hal; exact hal))
  rw [hwa, hcb] at hrow
  have CR := Lib.hid hrow
  have HWA := Lib.hid hwa
  have HCB := Lib.hid hcb
  clear hb1 hal hrow hwa hcb
  go_wp2_with fail
  rw [HWA.out, HCB.out]
  refine (check_any 40 128 4 2 16 4 2 2 4 wa).mono ?_
  rintro e w2 ⟨rfl, hb2⟩
  rw [show chkN 40 128 4 2 16 4 2 2 4 = 0 from by kernel_rfl]
  have B2 := Lib.hid (Below.call BA.out hb2)
  have CR2 := Lib.hid (row_keep CR.out hb2)
  clear hb2 CR BA
  obtain ⟨z0, z1, z2, z3, z4, z5, z6, z7, z8⟩ := cells9 CR2.out
  go_wp2_with fail
  refine (new_any 40 128 w2 r40).mono ?_
  rintro e w3 ⟨d, Z, rfl, hd3, hz3, hb3⟩
  have D3 := Lib.hid (DkB.mk hd3 (fun k h => Nat.le_trans B2.out.size (hz3 k h)) (Below.call B2.out hb3))
  have CR3 := Lib.hid (row_keep CR2.out hb3)
  clear z0 z1 z2 z3 z4 z5 z6 z7 z8 hd3 hz3 hb3 CR2 B2
  obtain ⟨z0, z1, z2, z3, z4, z5, z6, z7, z8⟩ := cells9 CR3.out
  go_wp2_with fail
  have HE0 := Lib.hid (wrote (st := K0) (b := KB) rfl kb_ok kb_fit rfl (by decide))
  refine (supwrite_any Z d K0 KB w3 D3.out.din kb_wf (show (0 : Int) + 1 ≤ 4611686018427387904 by decide)).mono ?_
  rintro e w4 ⟨rfl, Z4, hd4, ht4⟩
  rw [HE0.out.2] at hd4
  rw [HE0.out.1]
  have D4 := Lib.hid (D3.out.turn (st' := K1) hd4 ht4)
  clear hd4 ht4 z0 z1 z2 z3 z4 z5 z6 z7 z8 D3
  go_wp2_with fail
  refine (supread_any Z4 d K1 w4 D4.out.din (show 2 ≤ K1.kept.length by rw [k1_at, List.length_set, List.length_replicate]; decide) (show (0 : Int) + 2 ≤ 4611686018427387904 by decide)).mono ?_
  rintro e w5 ⟨rfl, hd5, ht5⟩
  rw [k1_read.2.2] at hd5
  rw [k1_read.1, k1_read.2.1]
  rw [show KB.val = .agg #[.int .u64 3, .int .i64 40, .int .i64 128, .int .i64 4, .int .i64 2, .int .i64 16, .int .i64 4, .int .i64 2, .int .i64 2, .int .i64 4, .int .i64 0, .int .i64 0, .int .u64 1] from rfl]
  have D5 := Lib.hid (D4.out.turn hd5 ht5)
  clear hd5 ht5 D4
  have hal := (Below.refl w5.heap.size w5).alloc (Nat.le_refl _) (.cells #[.int .u64 3, .int .i64 40, .int .i64 128, .int .i64 4, .int .i64 2, .int .i64 16, .int .i64 4, .int .i64 2, .int .i64 2, .int .i64 4, .int .i64 0, .int .i64 0, .int .u64 1] 28)
  have hrow := heap_alloc_new w5 (.cells #[.int .u64 3, .int .i64 40, .int .i64 128, .int .i64 4, .int .i64 2, .int .i64 16, .int .i64 4, .int .i64 2, .int .i64 2, .int .i64 4, .int .i64 0, .int .i64 0, .int .u64 1] 28)
  have D6 := Lib.hid (D5.out.more hal)
  obtain ⟨w6, hw6⟩ : ∃ w6, w5.alloc (.cells #[.int .u64 3, .int .i64 40, .int .i64 128, .int .i64 4, .int .i64 2, .int .i64 16, .int .i64 4, .int .i64 2, .int .i64 2, .int .i64 4, .int .i64 0, .int .i64 0, .int .u64 1] 28) = w6 := ⟨_, rfl⟩
  obtain ⟨bb, hbb⟩ : ∃ bb, w5.heap.size = bb := ⟨_, rfl⟩
  rw [hw6] at D6
  rw [hw6, hbb] at hrow
  have BR6 := Lib.hid hrow
  have HW6 := Lib.hid hw6
  have HBB := Lib.hid hbb
  have hnz : Hid (¬ Z4 bb) := fun h => by have := D5.out.din.1 bb h; omega
  clear hal hrow hw6 hbb D5
  go_wp2_with fail
  rw [HW6.out, HBB.out]
  refine (read_any Z4 d (readN K1 2) 1 w6 D6.out.din (by decide) (by decide) (show (2 : Int) + 1 ≤ 4611686018427387904 by decide)).mono ?_
  rintro e w7 ⟨v7, rfl, ho7, hd7, ht7⟩
  rw [k1_rd] at ho7
  have hl := supV_len kb_ok
  obtain ⟨n7, hn7⟩ : ∃ n7, (supV KB).length = n7 := ⟨_, rfl⟩
  rw [hn7] at hl
  obtain ⟨a7, c7, rfl⟩ := ho7.shapeN n7 hn7
  have BR7 := Lib.hid (row_tnd BR6.out ht7 hnz.out)
  have D7 := Lib.hid (D6.out.turn hd7 ht7)
  have O7 := Lib.hid ho7.rd
  clear ho7 hd7 ht7 BR6 D6 hn7
  go_wp2_with fail
  refine (supdec_any a7 n7 c7 (supV KB) w7 O7.out (by omega)).mono ?_
  rintro e w8 ⟨rfl, hb8⟩
  rw [(sup_read kb_wf kb_ok).1, (sup_read kb_wf kb_ok).2]
  rw [show KB.val = .agg #[.int .u64 3, .int .i64 40, .int .i64 128, .int .i64 4, .int .i64 2, .int .i64 16, .int .i64 4, .int .i64 2, .int .i64 2, .int .i64 4, .int .i64 0, .int .i64 0, .int .u64 1] from rfl]
  have BR8 := Lib.hid (row_keep BR7.out hb8)
  have B8 := Lib.hid (Below.call D7.out.below hb8)
  clear hb8 BR7 D7
  have hal := (Below.refl w8.heap.size w8).alloc (Nat.le_refl _) (.cells #[.int .u64 3, .int .i64 40, .int .i64 128, .int .i64 4, .int .i64 2, .int .i64 16, .int .i64 4, .int .i64 2, .int .i64 2, .int .i64 4, .int .i64 0, .int .i64 0, .int .u64 1] 28)
  obtain ⟨q0, q1, q2, q3, q4, q5, q6, q7, q8, q9, q10, q11, q12⟩ := cells13 (row_keep BR8.out hal)
  obtain ⟨r0, r1, r2, r3, r4, r5, r6, r7, r8, r9, r10, r11, r12⟩ := cells13 (heap_alloc_new w8 (.cells #[.int .u64 3, .int .i64 40, .int .i64 128, .int .i64 4, .int .i64 2, .int .i64 16, .int .i64 4, .int .i64 2, .int .i64 2, .int .i64 4, .int .i64 0, .int .i64 0, .int .u64 1] 28))
  obtain ⟨w9, hw9⟩ : ∃ w9, w8.alloc (.cells #[.int .u64 3, .int .i64 40, .int .i64 128, .int .i64 4, .int .i64 2, .int .i64 16, .int .i64 4, .int .i64 2, .int .i64 2, .int .i64 4, .int .i64 0, .int .i64 0, .int .u64 1] 28) = w9 := ⟨_, rfl⟩
  obtain ⟨xb, hxb⟩ : ∃ xb, w8.heap.size = xb := ⟨_, rfl⟩
  have B9 := Lib.hid (Below.call B8.out hal)
  rw [hw9] at q0 q1 q2 q3 q4 q5 q6 q7 q8 q9 q10 q11 q12 r0 r1 r2 r3 r4 r5 r6 r7 r8 r9 r10 r11 r12 B9
  rw [hxb] at r0 r1 r2 r3 r4 r5 r6 r7 r8 r9 r10 r11 r12
  clear hal
  go_wp2_with (rw [hw9, hxb])
  go_ret
  exact ⟨rfl, B9.out⟩
end Go.Proofs.Ytcbnebcooiagmaa
namespace Go.Proofs.Ytcbnebcooiagmaa
open Go.RowKit
/-- A block of the chapter's shape. -/
def shB (e q : Int) : Blk := ⟨e, 40, 128, 4, 2, 16, 4, 2, 2, 4, 0, 0, q⟩
set_option maxRecDepth 100000 in
theorem sh_body : (supBody KB).length ≤ 100 := of_decide_eq_true (by kernel_rfl)
theorem sh_ok (e q : Int) : supE (shB e q) = 0 := by
  have h1 : supArg (shB e q) = true := show supArg KB = true from (supE_ok kb_ok).1
  have h2 : (supOut (shB e q)).length = 24 + (supBody KB).length := by
    unfold supOut
    rw [List.length_append, supHead_len]
    rfl
  unfold supE
  rw [h1, if_neg (by decide), if_neg]
  rw [h2]
  have := sh_body
  show ¬ ((128 : Int) - 4 < ((24 + (supBody KB).length : Nat) : Int))
  omega
theorem sh_wf {e q : Int} (h1 : 0 ≤ e ∧ e ≤ 18446744073709551615) (h2 : 0 ≤ q ∧ q ≤ 18446744073709551615) : (shB e q).Wf :=
  ⟨h1, kb_wf.w0, kb_wf.w1, kb_wf.w2, kb_wf.w3, kb_wf.w4, kb_wf.w5, kb_wf.w6, kb_wf.w7, kb_wf.w8, kb_wf.rs, kb_wf.rn, h2⟩
/-- One slot holds b, whole and in its place; the other holds no block of the shape, or an older one. -/
theorem read_two {st : Dk} {b : Blk} {i j : Nat} (ho : st.off = false) (hij : i + j = 1) (hs : slotOk st i = true) (hb : slotB st i = b) (hj : slotOk st j = false ∨ (slotB st j).ep < b.ep) :
    supRE st = 0 ∧ supRB st = b ∧ supRS st = readN st 2 := by
  obtain ⟨e1, e2⟩ := best2 st
  have hbest : bestS st 2 = true ∧ bestB st 2 = b := by
    rcases (by omega : (i = 1 ∧ j = 0) ∨ (i = 0 ∧ j = 1)) with ⟨rfl, rfl⟩ | ⟨rfl, rfl⟩
    · rw [e1, e2, hs, hb]
      refine ⟨rfl, if_pos ?_⟩
      rcases hj with h | h
      · rw [h]; rfl
      · rw [decide_eq_true h]; simp
    · rw [e1, e2, hs, hb]
      refine ⟨by simp, ?_⟩
      rcases hj with h | h
      · rw [h]; rfl
      · rw [if_neg, if_pos rfl]
        rw [decide_eq_false (by omega)]
        simp
  unfold supRE supRB supRS
  rw [ho, hbest.1, hbest.2]
  exact ⟨rfl, rfl, rfl⟩
theorem putK_at {st : Dk} {i j : Nat} {l : List Int} (hp : st.pend = []) (hi : i < st.kept.length) (s : Int) (hs : s = i) : secB (putK st s l) i = l ∧ (j ≠ i → secB (putK st s l) j = secB st j) := by
  subst hs
  rw [secB_kept (show (putK st (i : Int) l).pend = [] from hp), secB_kept (show (putK st (i : Int) l).pend = [] from hp), secB_kept hp]
  show (((st.kept.set (i : Int).toNat l)[i]?).getD [] = l) ∧ (j ≠ i → ((st.kept.set (i : Int).toNat l)[j]?).getD [] = _)
  rw [Int.toNat_natCast]
  refine ⟨by rw [List.getElem?_set_self hi]; rfl, fun h => by rw [List.getElem?_set_ne (by omega)]⟩
theorem slotOk_same {st st' : Dk} {i : Nat} (h : secB st' i = secB st i) (hl : st'.kept.length = st.kept.length) (hz : st'.size = st.size) : slotOk st' i = slotOk st i ∧ slotB st' i = slotB st i := by
  have e : slotB st' i = slotB st i := by unfold slotB; rw [h]
  refine ⟨?_, e⟩
  unfold slotOk
  rw [h, e]
  unfold fitB
  rw [hl, hz]
end Go.Proofs.Ytcbnebcooiagmaa
namespace Go.Proofs.Ytcbnebcooiagmaa
open Go.RowKit
theorem settle_none (κ : Nat → Bool) (i : Nat) (k : List (List Int)) : settleK κ i [] k = k := rfl
/-- The disk when the power is on again and far from going. -/
def backS (st : Dk) : Dk := armS { st with off := false } 1099511627776 []
/-- What the law meets on its way. -/
structure CutLaw (A B : Blk) (n : Int) (kl : List Bool) (s1 s3 : Dk) : Prop where
  e1 : supWE K0 A = 0
  a1 : supWS K0 A = s1
  a3 : supWS (armS s1 n kl) B = s3
  w1 : (armS s1 n kl).writes + 1 ≤ 4611686018427387904
  cut : n ≤ 1 → supWE (armS s1 n kl) B = 8 ∧ s3.off = true ∧ supRE (backS s3) = 0 ∧ supRB (backS s3) = A
  whole : 1 < n → supWE (armS s1 n kl) B = 0 ∧ s3.off = false ∧ supRE (backS (cutS s3 kl)) = 0 ∧ supRB (backS (cutS s3 kl)) = B
  len : 2 ≤ s3.kept.length
  rd : s3.reads = 0
theorem cut_law {A B : Blk} (n : Int) (kl : List Bool) (hA : A.Wf) (hB : B.Wf) (eA : supE A = 0) (eB : supE B = 0) (fA : A.c0 = 40 ∧ A.c1 = 128) (fB : B.c0 = 40 ∧ B.c1 = 128) (hep : B.ep = A.ep + 1) : ∃ s1 s3, CutLaw A B n kl s1 s3 := by
  have fit : ∀ (st : Dk) (b : Blk), st.kept.length = 40 → st.size = 128 → b.c0 = 40 ∧ b.c1 = 128 → fitB st b = true := fun st b h1 h2 h3 => by
    unfold fitB
    rw [h1, h2, h3.1, h3.2]
    rfl
  obtain ⟨i, hi⟩ : ∃ i : Nat, (A.ep % 2).toNat = i := ⟨_, rfl⟩
  obtain ⟨j, hj⟩ : ∃ j : Nat, (B.ep % 2).toNat = j := ⟨_, rfl⟩
  have hij : i + j = 1 := by omega
  have hie : A.ep % 2 = i := by omega
  have hje : B.ep % 2 = j := by omega
  have hk0 : K0.kept.length = 40 := show (List.replicate 40 (List.replicate 128 (0 : Int))).length = 40 from List.length_replicate
  obtain ⟨w1, w2⟩ := wrote (st := K0) (b := A) rfl eA (fit K0 A hk0 rfl fA) rfl (by decide)
  obtain ⟨s1, hs1⟩ : ∃ s1, putK K0 (A.ep % 2) (supV A) = s1 := ⟨_, rfl⟩
  obtain ⟨p1, p2⟩ := putK_at (st := K0) (i := i) (j := j) (l := supV A) rfl (by rw [hk0]; omega) (A.ep % 2) hie
  rw [hs1] at p1 p2 w2
  replace p2 := p2 (by omega)
  have hz : secB s1 j = List.replicate 128 0 := by
    rw [p2, secB_kept rfl]
    show ((List.replicate 40 (List.replicate 128 (0 : Int)))[j]?).getD [] = _
    rw [List.getElem?_replicate, if_pos (by omega)]
    rfl
  have hp1 : s1.pend = [] := by rw [← hs1]; rfl
  have ho1 : s1.off = false := by rw [← hs1]; rfl
  have hl1 : s1.kept.length = 40 := by rw [← hs1]; show (K0.kept.set _ _).length = 40; rw [List.length_set, hk0]
  have hz1 : s1.size = 128 := by rw [← hs1]; rfl
  have hw1 : s1.writes = 1 := by rw [← hs1]; rfl
  have hr1 : s1.reads = 0 := by rw [← hs1]; rfl
  have keptSame : ∀ (st : Dk) (q : Nat), st.pend = [] → st.kept = s1.kept → secB st q = secB s1 q := fun st q h1 h2 => by rw [secB_kept h1, secB_kept hp1, h2]
  by_cases hn : n ≤ 1
  · have ha : (armS s1 n kl).armed = 1 := by show (if n < 1 then (1 : Int) else n) = 1; split <;> omega
    have hWE : supWE (armS s1 n kl) B = 8 := by
      unfold supWE
      rw [if_neg (by rw [eB]; simp), if_neg (by rw [fit (armS s1 n kl) B hl1 hz1 fB]; simp), if_neg (by show ¬ s1.off = true; rw [ho1]; simp), if_pos ha]
    obtain ⟨s3, hs3⟩ : ∃ s3, supWS (armS s1 n kl) B = s3 := ⟨_, rfl⟩
    have hs3' : s3 = cutS (flushS (armS s1 n kl)) (armS s1 n kl).keep := by
      rw [← hs3]
      unfold supWS
      rw [if_neg (by rw [eB]; simp), if_neg (by rw [fit (armS s1 n kl) B hl1 hz1 fB]; simp), if_neg (by show ¬ s1.off = true; rw [ho1]; simp), if_pos ha]
    have hk3 : s3.kept = s1.kept := by
      rw [hs3']
      show settleK (fun i => kl.getD i false) 0 [] (settleK (fun _ => true) 0 s1.pend s1.kept) = _
      rw [hp1]
      rfl
    have hb1 : ∀ q, secB (backS s3) q = secB s1 q := fun q => keptSame (backS s3) q (by show s3.pend = []; rw [hs3']; rfl) hk3
    have hbl : (backS s3).kept.length = 40 := by show s3.kept.length = 40; rw [hk3, hl1]
    have hbz : (backS s3).size = 128 := by show s3.size = 128; rw [hs3']; exact hz1
    obtain ⟨q1, q2⟩ := slot_of (st := backS s3) (i := i) (by rw [hb1]; exact p1) hA eA (fit _ A hbl hbz fA) hie
    obtain ⟨x1, x2, _⟩ := read_two (st := backS s3) rfl hij q1 q2 (.inl (slot_zero (n := 128) (by rw [hb1]; exact hz)))
    exact ⟨s1, s3, w1, w2, hs3, by show s1.writes + 1 ≤ _; rw [hw1]; decide, fun _ => ⟨hWE, by rw [hs3']; rfl, x1, x2⟩, fun h => by omega, by rw [hk3, hl1]; decide, by rw [hs3']; exact hr1⟩
  · have ha : (armS s1 n kl).armed ≠ 1 := by show (if n < 1 then (1 : Int) else n) ≠ 1; split <;> omega
    obtain ⟨v1, v2⟩ := wrote (st := armS s1 n kl) (b := B) hp1 eB (fit (armS s1 n kl) B hl1 hz1 fB) ho1 ha
    obtain ⟨s3, hs3⟩ : ∃ s3, putK (armS s1 n kl) (B.ep % 2) (supV B) = s3 := ⟨_, rfl⟩
    obtain ⟨r1, r2⟩ := putK_at (st := armS s1 n kl) (i := j) (j := i) (l := supV B) hp1 (by show j < s1.kept.length; rw [hl1]; omega) (B.ep % 2) hje
    rw [hs3] at r1 r2 v2
    replace r2 := r2 (by omega)
    have hp3 : s3.pend = [] := by rw [← hs3]; exact hp1
    have ho3 : s3.off = false := by rw [← hs3]; exact ho1
    have hl3 : s3.kept.length = 40 := by rw [← hs3]; show (s1.kept.set _ _).length = 40; rw [List.length_set, hl1]
    have hz3 : s3.size = 128 := by rw [← hs3]; exact hz1
    have hr3 : s3.reads = 0 := by rw [← hs3]; exact hr1
    have hkk : (backS (cutS s3 kl)).kept = s3.kept := by
      show settleK (fun i => kl.getD i false) 0 s3.pend s3.kept = _
      rw [hp3]
      rfl
    have hb1 : ∀ q, secB (backS (cutS s3 kl)) q = secB s3 q := fun q => by rw [secB_kept rfl, secB_kept hp3, hkk]
    have hbl : (backS (cutS s3 kl)).kept.length = 40 := by rw [hkk, hl3]
    have hrA : secB s3 i = supV A := by rw [r2, keptSame (armS s1 n kl) i hp1 rfl]; exact p1
    obtain ⟨q1, q2⟩ := slot_of (st := backS (cutS s3 kl)) (i := j) (by rw [hb1]; exact r1) hB eB (fit _ B hbl hz3 fB) hje
    obtain ⟨y1, y2⟩ := slot_of (st := backS (cutS s3 kl)) (i := i) (by rw [hb1]; exact hrA) hA eA (fit _ A hbl hz3 fA) hie
    obtain ⟨x1, x2, _⟩ := read_two (st := backS (cutS s3 kl)) rfl (show j + i = 1 by omega) q1 q2 (.inr (by rw [y2]; omega))
    exact ⟨s1, s3, w1, w2, v2, by show s1.writes + 1 ≤ _; rw [hw1]; decide, fun h => by omega, fun _ => ⟨v1, ho3, x1, x2⟩, by rw [hl3]; decide, hr3⟩
end Go.Proofs.Ytcbnebcooiagmaa
namespace Go.Proofs.Ytcbnebcooiagmaa
open Go.RowKit
def boolInfo : Prop := (Try.prog.info? 4).map (fun i => (i.zero, i.size, i.bytes)) = some (some (.bool false), 1, 1)
theorem boolI : boolInfo := by unfold boolInfo; kernel_rfl
set_option maxRecDepth 100000 in
theorem boolsT : Try.prog.underlying 61 = some (.slice 4) := Try.underlying61
/-- A slice of bools in a new block. -/
structure NewB (w w' : World) (v : Value) (n : Nat) (l : List Bool) : Prop where
  ex : ∃ a c, v = .slice a n c ∧ RdB w' a n c l ∧ ∀ q, a = some q → 0 < n → w.heap.size ≤ q.block ∧ q.block < w'.heap.size
  below : Below w.heap.size w w'
theorem NewB.past {w w' : World} {o : Obj} {v : Value} {n : Nat} {l : List Bool} (h : NewB (w.alloc o) w' v n l) : NewB w w' v n l := by
  obtain ⟨a, c, hv, hr, hq⟩ := h.ex
  exact ⟨⟨a, c, hv, hr, fun q h1 h2 => ⟨by have := (hq q h1 h2).1; simp at this; omega, (hq q h1 h2).2⟩⟩, ((Below.refl _ _).alloc (Nat.le_refl _) o).trans (h.below.mono (by simp))⟩
set_option maxRecDepth 100000 in
theorem run_app_bools (ty : TypeId) (w : World) (x0 : Addr) (xo : Option Addr) (n c : Nat) (l : List Bool) (hr : RdB w xo n c l) (hn : n ≤ 1099511627776) :
    ∃ v w', (Builtin.append_ #[61, 61] ty #[.slice (some x0) 0 0, .slice xo n c]).run Try.prog w = .ok v w' ∧ NewB w w' v n l := by
  have hlen := hr.len
  by_cases h0 : n = 0
  · subst h0
    have hl0 : l = [] := List.eq_nil_of_length_eq_zero hlen
    obtain ⟨i, hi, hz0, hz1, hz2⟩ : ∃ i, Try.prog.info? 4 = some i ∧ i.zero = some (.bool false) ∧ i.size = 1 ∧ i.bytes = 1 := by
      have := boolI
      unfold boolInfo at this
      cases h : Try.prog.info? 4 with
      | none => rw [h] at this; cases this
      | some i => rw [h] at this; simp at this; exact ⟨i, rfl, this.1, this.2.1, this.2.2⟩
    refine ⟨.slice (some x0) 0 0, w, ?_, ⟨some x0, 0, rfl, ⟨hlen, Nat.le_refl _, by unfold maxLen; omega, fun i hi => by omega, fun h => by cases h⟩, fun q _ h => by omega⟩, Below.refl _ _⟩
    cases xo <;> simp [Builtin.append_, run_underlying boolsT, sizeOf, typeInfo, hi, Builtin.lenOf, Builtin.firstCells, loadCells, loadCellsFrom, storeCells]
  · obtain ⟨i, hi, hz0, hz1, hz2⟩ : ∃ i, Try.prog.info? 4 = some i ∧ i.zero = some (.bool false) ∧ i.size = 1 ∧ i.bytes = 1 := by
      have := boolI
      unfold boolInfo at this
      cases h : Try.prog.info? 4 with
      | none => rw [h] at this; cases this
      | some i => rw [h] at this; simp at this; exact ⟨i, rfl, this.1, this.2.1, this.2.2⟩
    obtain ⟨x, rfl⟩ : ∃ x, xo = some x := by
      obtain ⟨b, o, e, _⟩ := hr.cell 0 (by omega)
      exact ⟨_, e⟩
    have hcell : ∀ j v, (l.map Value.bool)[j]? = some v → w.cell? (x.add j) = some v := by
      intro j v hv
      have hj : j < n := by have := (List.getElem?_eq_some_iff.1 hv).1; simpa [hlen] using this
      obtain ⟨b, o, e, hc⟩ := hr.cell j hj
      injection e with e
      subst e
      rw [Addr.add_lit, hc]
      rw [List.getElem?_map, List.getElem?_eq_getElem (by omega)] at hv
      rw [List.getD_eq_getElem?_getD, List.getElem?_eq_getElem (by omega)]; exact hv
    have hrun := run_append_grow (P := Try.prog) w 61 ty 4 i (.bool false) boolsT hi hz0 x0 0 0 [] (by simp) (by simp) x n c (l.map Value.bool) (by simp [hlen, hz1]) hcell (by omega) (by omega) (growslice_fits (by omega) (by rw [hz2]; omega))
    rw [Nat.zero_add] at hrun
    refine ⟨_, _, hrun, ⟨_, _, rfl, ⟨hlen, ?_, ?_, fun j hj => ⟨w.heap.size, 0, rfl, ?_⟩, fun h => by cases h⟩, fun q hq _ => ?_⟩, ?_⟩
    · exact grownCap_ge w n 0 4
    · exact grownCap_le_maxLen w n 0 4 (by unfold maxLen; omega)
    · rw [Nat.zero_add, show w.heap.size = w.drew.heap.size from rfl, cell_of_row _ _ _ _ _ _ (heap_alloc_new w.drew _), Array.getElem?_append_left (by simp; omega)]
      simp [hlen, hj, List.getD_eq_getElem?_getD]
    · injection hq with hq
      subst hq
      exact ⟨Nat.le_refl _, by simp⟩
    · exact ((⟨rfl, rfl, rfl, Nat.le_refl _, fun _ _ => rfl⟩ : Below w.heap.size w w.drew)).alloc (Nat.le_refl _) _
section
variable {ops : Array Oper} {rest : List Oper} {o : Oper} {a : Act} {Q : Exit → Act → World → Prop}
set_option maxRecDepth 100000 in
theorem app_bools (hg : o.guard = none) (s x : Operand) (ho : o.op = .call { callee := .builtin .append, args := #[s, x], argTypes := #[61, 61] }) (w : World) (y0 : Addr) (y : Option Addr) (n c : Nat) (l : List Bool)
    (hs : a.eval s = .slice (some y0) 0 0) (hx : a.eval x = .slice y n c) (hr : RdB w y n c l) (hn : n ≤ 1099511627776)
    (h : ∀ v w', NewB w w' v n l → wpList Try.prog ops Q rest (a.put o.dst v) w') : wpList Try.prog ops Q (o :: rest) a w := by
  refine wpList_plain hg fun K hK => ?_
  obtain ⟨v', w', hrun, h1⟩ := run_app_bools o.type w y0 y n c l hr hn
  unfold Oper.wp execOp
  simp only [ho, resolve, invoke, builtin, Sem.run_bind, Sem.run_pure, Result.andThen_ok, List.map_toArray, List.map_cons, List.map_nil, hs, hx, hrun]
  exact hK _ _ (h v' w' h1)
end
/-- Ends with a new slice of bools. -/
def GivesB (n : Nat) (l : List Bool) (w : World) (e : Ending) (w' : World) : Prop := ∃ v, e = .returned v ∧ NewB w w' v n l
set_option maxRecDepth 100000 in
theorem cloneB_any (a : Option Addr) (n c : Nat) (l : List Bool) (w : World) (h : RdB w a n c l) (hn : n ≤ 1000000000) :
    Calls Try.prog 65 #[.slice a n c] w (GivesB n l w) := by
  cases a with
  | none =>
    obtain rfl : c = 0 := h.void rfl
    have hcap := h.cap
    obtain rfl : n = 0 := by omega
    exact (clone_nil w).mono fun e w' ⟨he, hw⟩ => ⟨_, he, ⟨none, 0, rfl, by rw [← hw]; exact h, fun q hq => by cases hq⟩, by rw [← hw]; exact Below.refl _ _⟩
  | some x =>
    have hnil := fun (w : World) (a : Option Addr) (n c : Nat) => Lib.run_eql_slice_nil (P := Try.prog) w 61 4 a n c 0 0 Try.underlying61
    have H := Lib.hid h
    clear h
    go_enter Try.func65, Try.ntmps65
    go_wp2_with (at_builtin; refine app_bools rfl _ _ rfl _ _ _ _ _ l rfl rfl (RdB.kept H.out (fun q hq h0 => heap_alloc_keep w _ (H.out.lt q hq h0))) (by omega) ?_; intro x1 w1 hb1)
    go_ret
    exact ⟨_, rfl, NewB.past hb1⟩
theorem armQ {w w1 w' : World} {Z : Nat → Prop} {d kb mb : Nat} {pv kv : Value} {vals pvs : List Value} {st : Dk} (p : DkP w Z d kb mb pv kv vals pvs st) (hz : ∀ k, Z k → k < w.heap.size) (hb : Below w.heap.size w w1) (kv2 : Value) (n : Nat) (kl : List Bool) (hk : NewB w w1 kv2 n kl)
    (hoth : ∀ x, x ≠ d → w'.heap[x]? = w1.heap[x]?) (hsz : w'.heap.size = w1.heap.size) (z : Int)
    (row : w'.heap[d]? = some (.cells #[.bool st.off, .int .i64 (if z < 1 then 1 else z), kv2, .int .i64 st.size, .slice (some ⟨kb, 0, none⟩) st.kept.length st.kept.length, pv, .map (some mb), .int .i64 st.writes, .int .i64 st.reads] 69 (0, 0))) (h2 : z ≤ 9223372036854775807) :
    DkIn w' (fun x => Z x ∨ (w.heap.size ≤ x ∧ x < w'.heap.size)) d (armS st z kl) := by
  have ho : ∀ x, Z x → x ≠ d → w'.heap[x]? = w.heap[x]? := fun x hx hne => by rw [hoth x hne, hb.block x (hz x hx)]
  have hm : ∀ x, Z x → ¬ MutD d kb mb pv x → w'.heap[x]? = w.heap[x]? := fun x hx h => ho x hx (fun e => h (.inl e))
  refine ⟨fun x hx => ?_, kb, mb, pv, kv2, vals, pvs, row, ?_, ?_, ?_, ?_, ?_, ?_, p.ne, p.rm, fun x hx => .inl (p.z x hx), ⟨p.ok.size, p.ok.n, p.ok.kept, p.ok.pend, ?_, p.ok.few, p.ok.writes, p.ok.reads⟩⟩
  · rcases hx with hx | hx
    · rw [hsz]; exact Nat.lt_of_lt_of_le (hz x hx) hb.size
    · exact hx.2
  · rw [ho kb (p.z kb (.inr (.inl rfl))) p.ne.1.symm]; exact p.krow
  · exact p.kvals.imp fun v l h => h.at hm (fun _ _ h => h) (fun _ h => .inl h)
  · exact ownsRow_at p.prow (fun g hg => ho g (p.z g (.inr (.inr (.inr hg)))) (p.rm g hg).1)
  · exact p.pvals.imp fun v l h => h.at hm (fun _ _ h => h) (fun _ h => .inl h)
  · exact p.map.at (ho mb (p.z mb (.inr (.inr (.inl rfl)))) p.ne.2.1.symm)
  · obtain ⟨a, c, hv, hr, hq⟩ := hk.ex
    have hdw : d < w.heap.size := hz d (p.z d (.inl rfl))
    refine ⟨a, n, c, hv, hr.kept (fun x hx h0 => hoth _ (fun e => ?_)), fun q hqa h0 => ⟨fun hmm => ?_, .inr ⟨(hq q hqa h0).1, ?_⟩⟩⟩
    · have := (hq x hx h0).1
      omega
    · have := hz _ (p.z _ hmm)
      have := (hq q hqa h0).1
      omega
    · rw [hsz]; exact (hq q hqa h0).2
  · show 0 ≤ (if z < 1 then 1 else z) ∧ (if z < 1 then 1 else z) ≤ 9223372036854775807
    split <;> omega
set_option linter.unusedSimpArgs false in
set_option linter.unusedVariables false in
set_option maxRecDepth 100000 in
set_option maxHeartbeats 2000000 in
theorem arm_any (Z : Nat → Prop) (d : Nat) (st : Dk) (z : Int) (a : Option Addr) (n c : Nat) (kl : List Bool) (w : World) (h : DkIn w Z d st) (hk : RdB w a n c kl) (hn : n ≤ 1000000000) (h1 : -9223372036854775808 ≤ z) (h2 : z ≤ 9223372036854775807) :
    Calls Try.prog 25 #[.pointer (some ⟨d, 0, none⟩), .int .i64 z, .slice a n c] w fun e w' => e = .returned (.tuple #[]) ∧ ∃ Z', DkIn w' Z' d (armS st z kl) ∧ Tnd Z Z' w w' := by
  obtain ⟨hz, kb, mb, pv, kv, vals, pvs, p⟩ := h
  have P := Lib.hid p
  have K := Lib.hid hk
  have hZd := hz d (p.z d (.inl rfl))
  have HD := Lib.hid (p.z d (.inl rfl))
  by_cases hn1 : z < 1
  · have e1 : (if z < 1 then 1 else z) = 1 := if_pos hn1
    have e2 : (max z 1 : Int) = 1 := by omega
    clear p hk
    go_enter Try.func25, Try.ntmps25
    go_wp2_with fail
    refine (cloneB_any a n c kl _ K.out hn).mono ?_
    rintro e w1 ⟨v, rfl, hnb⟩
    obtain ⟨a1, c1, hv, _⟩ := hnb.ex
    subst hv
    have NB := Lib.hid hnb
    have hrow := row_keep P.out.row hnb.below
    obtain ⟨y0, y1, y2, y3, y4, y5, y6, y7, y8, cf⟩ := cellsD hrow
    have HROW := Lib.hid hrow
    have HE := Lib.hid e1
    clear hnb hrow e1
    go_wp2_with fail

    go_end0
    have hoth : ∀ x, x ≠ d → ((w1.setCell ⟨d, 1, none⟩ (.int .i64 1)).setCell ⟨d, 2, none⟩ (.slice a1 n c1)).heap[x]? = w1.heap[x]? := fun x hne => by
      rw [heap_setCell_other _ ⟨d, 2, none⟩ x _ hne, heap_setCell_other w1 ⟨d, 1, none⟩ x _ hne]
    refine ⟨rfl, _, armQ P.out hz NB.out.below (.slice a1 n c1) n kl NB.out hoth (by simp) z (by
      rw [HE.out, heap_setCell_same _ d 2 _ _ _ (heap_setCell_same w1 d 1 _ _ _ HROW.out)]
      simp) h2, ⟨NB.out.below.os, NB.out.below.tape, NB.out.below.output, by simpa using NB.out.below.size, fun x hx hzx => ?_, fun x h => h.imp id (·.1)⟩⟩
    rw [hoth x (fun e => hzx (by rw [e]; exact HD.out))]
    exact NB.out.below.block x hx
  · have e1 : (if z < 1 then 1 else z) = z := if_neg hn1
    clear p hk
    go_enter Try.func25, Try.ntmps25
    go_wp2_with fail
    refine (cloneB_any a n c kl _ K.out hn).mono ?_
    rintro e w1 ⟨v, rfl, hnb⟩
    obtain ⟨a1, c1, hv, _⟩ := hnb.ex
    subst hv
    have NB := Lib.hid hnb
    have hrow := row_keep P.out.row hnb.below
    obtain ⟨y0, y1, y2, y3, y4, y5, y6, y7, y8, cf⟩ := cellsD hrow
    have HROW := Lib.hid hrow
    have HE := Lib.hid e1
    clear hnb hrow e1
    go_wp2_with fail

    go_end0
    have hoth : ∀ x, x ≠ d → ((w1.setCell ⟨d, 1, none⟩ (.int .i64 z)).setCell ⟨d, 2, none⟩ (.slice a1 n c1)).heap[x]? = w1.heap[x]? := fun x hne => by
      rw [heap_setCell_other _ ⟨d, 2, none⟩ x _ hne, heap_setCell_other w1 ⟨d, 1, none⟩ x _ hne]
    refine ⟨rfl, _, armQ P.out hz NB.out.below (.slice a1 n c1) n kl NB.out hoth (by simp) z (by
      rw [HE.out, heap_setCell_same _ d 2 _ _ _ (heap_setCell_same w1 d 1 _ _ _ HROW.out)]
      simp) h2, ⟨NB.out.below.os, NB.out.below.tape, NB.out.below.output, by simpa using NB.out.below.size, fun x hx hzx => ?_, fun x h => h.imp id (·.1)⟩⟩
    rw [hoth x (fun e => hzx (by rw [e]; exact HD.out))]
    exact NB.out.below.block x hx
end Go.Proofs.Ytcbnebcooiagmaa
