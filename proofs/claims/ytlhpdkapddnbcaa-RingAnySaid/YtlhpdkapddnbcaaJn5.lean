/- Regions that draw their order: small steps for a walk that is written out, order by order. No program in sight. Bytes as a value and as a string: words for regions that draw their order. The contracts of crc.Seal and crc.Open. append(s, make([]T, n)...) on rows of numbers that the call owns. No program in sight. ring: a journal's block; on, area, room, needs, used, Room, First, Next. Regions that draw their order: an operation's value may be used up by another one (the variable that a chain of calls hands on). No program in sight. -/
import Derived.Test.YtlhpdkapddnbcaaJn1
import Derived.Deep.DrawnRows
import Derived.Test.YtlhpdkapddnbcaaJn2
import Derived.Test.YtlhpdkapddnbcaaJn3
import Derived.Test.YtlhpdkapddnbcaaJn4
import Derived.Lib.AppendZerosOnto
namespace Go.Proofs.Ytlhpdkapddnbcaa
open Go.RowKit

section
variable {P : Program} {l : List Oper} {Q : Exit → Act → World → Prop}

/-- Which operations have come up: a number's bits. -/
def bitsA (n m : Nat) : Array Bool := ((List.range n).map fun i => m.testBit i).toArray

theorem get_of_drop {i : Nat} {o : Oper} {r : List Oper} (h : l.drop i = o :: r) : l.toArray[i]? = some o := by
  have h1 : (l.drop i)[0]? = some o := by rw [h]; rfl
  rw [List.getElem?_drop] at h1
  simpa using h1

/-- Operation i, which yields v in whatever world, is taken first. -/
theorem reg_take (i : Nat) {o : Oper} {r : List Oper} {d : Tmp} {v : Value} {fuel : Nat} {listed listed' : Array Bool} {t : Array Value} {ds : List Deferred} {w : World} (ho : l.drop i = o :: r) (hd : o.dst = some d) (hl : listed.setIfInBounds i true = listed')
    (hs : Region.noSelect l.toArray = true) (hf : Region.free .any l.toArray listed i = true) (hr : (Region.ready .any l.toArray listed).contains i = true)
    (hQ : ∀ c a w, Q (.panic c) (a.put o.dst v) w → Q (.panic c) a w) (hw : Region.wanted o (yielded l.toArray t) = true)
    (hy : ∀ w, (execOp (Act.mk t ds).eval o).run P w = .ok (.value v) w)
    (h : wpAny P .any l.toArray Q fuel listed' ⟨t.setIfInBounds d v, ds⟩ w) : wpAny P .any l.toArray Q (fuel + 1) listed ⟨t, ds⟩ w := by
  refine wpAny_take (get_of_drop ho) hs hf hr hQ (.inl ⟨hw, hy⟩) ?_
  rw [hl, hd]
  exact h
/-- Its guard says no: it is passed over. -/
theorem reg_pass (i : Nat) {o : Oper} {r : List Oper} {d : Tmp} {fuel : Nat} {listed listed' : Array Bool} {t : Array Value} {ds : List Deferred} {w : World} (ho : l.drop i = o :: r) (hd : o.dst = some d) (hl : listed.setIfInBounds i true = listed')
    (hs : Region.noSelect l.toArray = true) (hf : Region.free .any l.toArray listed i = true) (hr : (Region.ready .any l.toArray listed).contains i = true)
    (hQ : ∀ c a w, Q (.panic c) (a.put o.dst undef) w → Q (.panic c) a w) (hw : Region.wanted o (yielded l.toArray t) = false)
    (h : wpAny P .any l.toArray Q fuel listed' ⟨t.setIfInBounds d undef, ds⟩ w) : wpAny P .any l.toArray Q (fuel + 1) listed ⟨t, ds⟩ w := by
  refine wpAny_take (v := undef) (get_of_drop ho) hs hf hr hQ (.inr ⟨hw, rfl⟩) ?_
  rw [hl, hd]
  exact h

/-- What is to be shown of an operation that comes up: its run, and what follows. -/
def Comes1 (P : Program) (l : List Oper) (Q : Exit → Act → World → Prop) (fuel : Nat) (listed' : Array Bool) (o : Oper) (a : Act) (w : World) : Prop :=
  ∀ K : Act → World → Prop, (∀ a w, wpAny P .any l.toArray Q fuel listed' a w → K a w) → Oper.wp P o a w K Q

theorem reg_step {fuel i : Nat} {o : Oper} {r : List Oper} {listed listed' : Array Bool} {a : Act} {w : World} (ho : l.drop i = o :: r) (hl : listed.setIfInBounds i true = listed') (hg : o.guard = none)
    (h : Comes1 P l Q fuel listed' o a w) : wpOp P l.toArray Q i (wpAny P .any l.toArray Q fuel (listed.setIfInBounds i true)) a w := by
  subst hl
  exact wpOp_step (get_of_drop ho) (fun K hK => by rw [if_pos (by simp [Region.wanted, hg])]; exact h K hK)

theorem reg_one (i1 : Nat) {o1 : Oper} {r1 : List Oper} {fuel : Nat} {listed m1 : Array Bool} {a : Act} {w : World} (ho1 : l.drop i1 = o1 :: r1) (hl1 : listed.setIfInBounds i1 true = m1) (hg1 : o1.guard = none)
    (hr : Region.ready .any l.toArray listed = [i1]) (h1 : Comes1 P l Q fuel m1 o1 a w) : wpAny P .any l.toArray Q (fuel + 1) listed a w :=
  wpAny_all hr (by simp) (fun i hi => by
    simp at hi; subst hi; exact reg_step ho1 hl1 hg1 h1)
theorem reg_two (i1 i2 : Nat) {o1 o2 : Oper} {r1 r2 : List Oper} {fuel : Nat} {listed m1 m2 : Array Bool} {a : Act} {w : World} (ho1 : l.drop i1 = o1 :: r1) (hl1 : listed.setIfInBounds i1 true = m1) (hg1 : o1.guard = none)
    (ho2 : l.drop i2 = o2 :: r2) (hl2 : listed.setIfInBounds i2 true = m2) (hg2 : o2.guard = none)
    (hr : Region.ready .any l.toArray listed = [i1, i2]) (h1 : Comes1 P l Q fuel m1 o1 a w) (h2 : Comes1 P l Q fuel m2 o2 a w) : wpAny P .any l.toArray Q (fuel + 1) listed a w :=
  wpAny_all hr (by simp) (fun i hi => by
    simp at hi
    rcases hi with hi | hi
    · subst hi; exact reg_step ho1 hl1 hg1 h1
    · subst hi; exact reg_step ho2 hl2 hg2 h2)
theorem reg_three (i1 i2 i3 : Nat) {o1 o2 o3 : Oper} {r1 r2 r3 : List Oper} {fuel : Nat} {listed m1 m2 m3 : Array Bool} {a : Act} {w : World} (ho1 : l.drop i1 = o1 :: r1) (hl1 : listed.setIfInBounds i1 true = m1) (hg1 : o1.guard = none)
    (ho2 : l.drop i2 = o2 :: r2) (hl2 : listed.setIfInBounds i2 true = m2) (hg2 : o2.guard = none)
    (ho3 : l.drop i3 = o3 :: r3) (hl3 : listed.setIfInBounds i3 true = m3) (hg3 : o3.guard = none)
    (hr : Region.ready .any l.toArray listed = [i1, i2, i3]) (h1 : Comes1 P l Q fuel m1 o1 a w) (h2 : Comes1 P l Q fuel m2 o2 a w) (h3 : Comes1 P l Q fuel m3 o3 a w) : wpAny P .any l.toArray Q (fuel + 1) listed a w :=
  wpAny_all hr (by simp) (fun i hi => by
    simp at hi
    rcases hi with hi | hi | hi
    · subst hi; exact reg_step ho1 hl1 hg1 h1
    · subst hi; exact reg_step ho2 hl2 hg2 h2
    · subst hi; exact reg_step ho3 hl3 hg3 h3)

theorem reg_four (i1 i2 i3 i4 : Nat) {o1 o2 o3 o4 : Oper} {r1 r2 r3 r4 : List Oper} {fuel : Nat} {listed m1 m2 m3 m4 : Array Bool} {a : Act} {w : World} (ho1 : l.drop i1 = o1 :: r1) (hl1 : listed.setIfInBounds i1 true = m1) (hg1 : o1.guard = none)
    (ho2 : l.drop i2 = o2 :: r2) (hl2 : listed.setIfInBounds i2 true = m2) (hg2 : o2.guard = none)
    (ho3 : l.drop i3 = o3 :: r3) (hl3 : listed.setIfInBounds i3 true = m3) (hg3 : o3.guard = none)
    (ho4 : l.drop i4 = o4 :: r4) (hl4 : listed.setIfInBounds i4 true = m4) (hg4 : o4.guard = none)
    (hr : Region.ready .any l.toArray listed = [i1, i2, i3, i4]) (h1 : Comes1 P l Q fuel m1 o1 a w) (h2 : Comes1 P l Q fuel m2 o2 a w) (h3 : Comes1 P l Q fuel m3 o3 a w) (h4 : Comes1 P l Q fuel m4 o4 a w) : wpAny P .any l.toArray Q (fuel + 1) listed a w :=
  wpAny_all hr (by simp) (fun i hi => by
    simp at hi
    rcases hi with hi | hi | hi | hi
    · subst hi; exact reg_step ho1 hl1 hg1 h1
    · subst hi; exact reg_step ho2 hl2 hg2 h2
    · subst hi; exact reg_step ho3 hl3 hg3 h3
    · subst hi; exact reg_step ho4 hl4 hg4 h4)

theorem reg_start {id : Nat} {a : Act} {w : World} (hm : P.follows .mixedOrders = true) (n : Nat) (hn : l.length = n) (h0 : Array.replicate n false = bitsA n 0) (h : wpAny P .any l.toArray Q n (bitsA n 0) a w.drew) : (Code.region id l.toArray true).wp P Q a w := by
  subst hn
  refine wp_region_any hm ?_
  rw [List.size_toArray, h0]
  exact h
theorem reg_done {listed : Array Bool} {a : Act} {w : World} (hr : Region.ready .any l.toArray listed = []) (h : Q .normal a w) : wpAny P .any l.toArray Q 0 listed a w := wpAny_done hr h 0
end

section
variable {P : Program} {k : IntKind} {T e bytes : Nat} {o : Oper} {t : Array Value} {ds : List Deferred} {Q : Exit → Act → World → Prop} {K : Act → World → Prop}
theorem wp_of_run {v : Value} {w w' : World} (d : Tmp) (hd : o.dst = some d) (hrun : (execOp (Act.mk t ds).eval o).run P w = .ok (.value v) w') (h : K ⟨t.setIfInBounds d v, ds⟩ w') : Oper.wp P o ⟨t, ds⟩ w K Q := by
  unfold Oper.wp
  rw [hrun]
  show K ((Act.mk t ds).put o.dst v) w'
  rw [hd]
  exact h
/-- A slice literal without elements. -/
theorem wp_empty (d : Tmp) (hd : o.dst = some d) (e : Nat) (w : World) (hrun : (execOp (Act.mk t ds).eval o).run P w = .ok (.value (.slice (some ⟨w.heap.size, 0, none⟩) 0 0)) (w.alloc (.cells #[] e)))
    (h : K ⟨t.setIfInBounds d (.slice (some ⟨w.heap.size, 0, none⟩) 0 0), ds⟩ (w.alloc (.cells #[] e))) : Oper.wp P o ⟨t, ds⟩ w K Q := wp_of_run d hd hrun h
theorem wp_app_all (d : Tmp) (hd : o.dst = some d) (hT : P.underlying T = some (.slice e)) (hI : elemInfo P e k bytes) (hby : bytes ≤ 8) (s x : Operand)
    (ho : o.op = .call { callee := .builtin .append, args := #[s, x], argTypes := #[T, T] }) (w : World) (base : Nat) (v : Value) (l : List Int) (hs : (Act.mk t ds).eval s = v) (hown : Owns k e w base v l)
    (b : Option Addr) (n c : Nat) (lb : List Int) (hx : (Act.mk t ds).eval x = .slice b n c) (hrd : RdAt k w b n c lb) (hlen : l.length + n ≤ 1099511627776) (hbase : base ≤ w.heap.size)
    (h : ∀ v' w', Owns k e w' base v' (l ++ lb) → Grows w v w' v' → K ⟨t.setIfInBounds d v', ds⟩ w') :
    Oper.wp P o ⟨t, ds⟩ w K Q := by
  obtain ⟨v', w', hr, h1, h2⟩ := run_app_all (P := P) hT hI hby o.type w base v l hown b n c lb hrd hlen hbase
  refine wp_of_run d hd (v := v') (w' := w') ?_ (h v' w' h1 h2)
  unfold execOp
  simp only [ho, resolve, invoke, builtin, Sem.run_bind, Sem.run_pure, Result.andThen_ok, List.map_toArray, List.map_cons, List.map_nil, hs, hx, hr]
theorem wp_app_one (d : Tmp) (hd : o.dst = some d) (hT : P.underlying T = some (.slice e)) (hI : elemInfo P e k bytes) (hby : bytes ≤ 8) (s x : Operand)
    (ho : o.op = .call { callee := .builtin .append, args := #[s, x], argTypes := #[T, T] }) (w : World) (base : Nat) (v : Value) (l : List Int) (hs : (Act.mk t ds).eval s = v) (hown : Owns k e w base v l)
    (q : Int) (hx : (Act.mk t ds).eval x = .slice (some ⟨w.heap.size, 0, none⟩) 1 1) (hq : (Lit.int k q).wf = true) (hlen : l.length ≤ 1099511627775) (hbase : base ≤ w.heap.size)
    (h : ∀ v' w', Owns k e w' base v' (l ++ [q]) → Grows w v w' v' → K ⟨t.setIfInBounds d v', ds⟩ w') :
    Oper.wp P o ⟨t, ds⟩ (w.alloc (.cells #[.int k q] e)) K Q := by
  obtain ⟨v', w', hr, h1, h2⟩ := run_app_one (P := P) hT hI hby o.type w base v l hown q hq hlen hbase
  refine wp_of_run d hd (v := v') (w' := w') ?_ (h v' w' h1 h2)
  unfold execOp
  simp only [ho, resolve, invoke, builtin, Sem.run_bind, Sem.run_pure, Result.andThen_ok, List.map_toArray, List.map_cons, List.map_nil, hs, hx, hr]
theorem wp_conv {src dst : TypeId} (d : Tmp) (hd : o.dst = some d) (hs : P.underlying src = some (.slice e)) (he : P.underlying e = some (.int .u8)) (hdt : P.underlying dst = some .string) (x : Operand) (ho : o.op = .convert src dst x)
    {w : World} {a : Option Addr} {n c : Nat} {l : List Int} (hx : (Act.mk t ds).eval x = .slice a n c) (hrd : RdAt .u8 w a n c l)
    (h : K ⟨t.setIfInBounds d (.string (strOfNums l)), ds⟩ w) : Oper.wp P o ⟨t, ds⟩ w K Q := by
  have hr := conv_rd hs he hdt hrd
  refine wp_of_run d hd ?_ h
  unfold execOp
  simp only [ho, hx]
  simp [hr, Result.andThen]
end
end Go.Proofs.Ytlhpdkapddnbcaa

namespace Go.Proofs.Ytlhpdkapddnbcaa
open Go.RowKit
set_option maxRecDepth 100000 in
theorem s8 : Try.prog.underlying 5 = some (.int .u8) := Try.underlying5
set_option maxRecDepth 100000 in
theorem su : Try.prog.underlying 9 = some .string := Try.underlying9
theorem str_inj {a b : List Int} (ha : Bytes a) (hb : Bytes b) (h : (strOfNums a).toList = (strOfNums b).toList) : a = b := by
  rw [ByteArray.toList_eq, ByteArray.toList_eq, strOfNums_data, strOfNums_data] at h
  have hl : a.length = b.length := by simpa using congrArg List.length h
  apply List.ext_getElem hl
  intro i h1 h2
  have e := congrArg (fun l => l[i]?) h
  simp only [List.getElem?_map, List.getElem?_eq_getElem h1, List.getElem?_eq_getElem h2, Option.map_some, Option.some.injEq] at e
  obtain ⟨a1, a2⟩ := ha _ (List.getElem_mem h1)
  obtain ⟨b1, b2⟩ := hb _ (List.getElem_mem h2)
  have e2 := congrArg UInt8.toNat e
  simp only [UInt8.toNat_ofNat'] at e2
  omega
theorem RdAt.keptD {k : IntKind} {w w' : World} {a : Option Addr} {n c : Nat} {l : List Int} (h : RdAt k w a n c l) (hk : Kept w.drew w') : RdAt k w' a n c l :=
  RdAt.below (w := w.drew) ⟨h.len, h.cap, h.max, h.cell, h.wf, h.void⟩ hk
/-- A slice that reads as these bytes. -/
def isBytes (l : List Int) (v : Value) (w : World) : Prop := ∃ a n c, v = .slice a n c ∧ RdAt .u8 w a n c l
theorem isBytes_stays (l : List Int) : Stays Kept (isBytes l) := by
  rintro v w w' ⟨a, n, c, rfl, h⟩ hk
  exact ⟨a, n, c, rfl, h.below hk⟩
theorem Owns.isBytes {e : TypeId} {w : World} {base : Nat} {v : Value} {l : List Int} (h : Owns .u8 e w base v l) : isBytes l v w := by
  obtain ⟨a, c, rfl⟩ := h.shape
  exact ⟨_, _, _, rfl, h.rd⟩
theorem RdAt.isBytes {w : World} {a : Option Addr} {n c : Nat} {l : List Int} (h : RdAt .u8 w a n c l) : isBytes l (.slice a n c) w := ⟨_, _, _, rfl, h⟩
end Go.Proofs.Ytlhpdkapddnbcaa

namespace Go.Proofs.Ytlhpdkapddnbcaa
open Go.RowKit
theorem below_boxed {w w2 : World} {o : Obj} (h : Below (w.alloc o).heap.size (w.alloc o) w2) : Below w.heap.size w w2 := ((Below.refl w.heap.size w).alloc (Nat.le_refl _) o).trans (h.mono (by simp))
theorem Owns.lower {k : IntKind} {e : TypeId} {w w1 : World} {base : Nat} {v : Value} {l : List Int} (h : Owns k e w1 base v l) (hb : w.heap.size ≤ base) : Owns k e w1 w.heap.size v l := h.mono hb
set_option maxRecDepth 100000 in
set_option maxHeartbeats 400000 in
theorem seal_any (a : Option Addr) (n c : Nat) (l : List Int) (w : World) (h : RdAt .u8 w a n c l) (hn : n ≤ 1000000000) :
    Calls Try.prog 59 #[.slice a n c] w (GivesBytes (sealL l) w) := by
  have hbd := u32_bd (sumB l)
  have hbd1 := hbd.1
  have hbd2 := hbd.2
  clear hbd
  go_enter Try.func59, Try.ntmps59
  go_wp2_with fail
  refine (sum_one _ _ l _ (PartsAt.one h _)).mono ?_
  rintro e w1 ⟨rfl, hb⟩
  replace hb := below_boxed hb
  have hr := h.below hb
  go_wp2_with fail
  refine (put_any _ _ _ l _ _ _ hr hn (by omega) (by omega) (by omega) (by omega)).mono ?_
  rintro e w2 ⟨r, rfl, ho, hb2⟩
  go_wp2
  go_ret
  exact ⟨_, rfl, ho.mono hb.size, hb.trans (hb2.mono hb.size)⟩
theorem RdAt.drop {w : World} {b o n c : Nat} {l : List Int} {kd : IntKind} (h : RdAt kd w (some ⟨b, o, none⟩) n c l) (k : Nat) (hk : k ≤ n) : RdAt kd w (some ⟨b, o + k, none⟩) (n - k) (c - k) (l.drop k) :=
  ⟨by rw [List.length_drop, h.len], by have := h.cap; omega, by have := h.max; omega, fun i hi => by
    obtain ⟨b', o', e, hc⟩ := h.cell (k + i) (by omega)
    injection e with e
    injection e with e1 e2
    subst e1 e2
    refine ⟨_, _, rfl, ?_⟩
    rw [Nat.add_assoc, hc]; congr 1
    have hl := h.len
    rw [nth_eq (by omega), nth_eq (by rw [List.length_drop]; omega), List.getElem_drop], fun x hx => h.wf x (List.mem_of_mem_drop hx), fun h => by cases h⟩
def openL (l : List Int) : List Int := if openOk l = true then l.take (l.length - 4) else []
def openE (l : List Int) : Int := if l.length < 4 then 21 else if openOk l = true then 0 else 23
def GivesOpen (l : List Int) (w : World) (e : Ending) (w' : World) : Prop := ∃ v, e = .returned (.tuple #[v, .int .i64 (openE l)]) ∧ Owns .u8 5 w' w.heap.size v (openL l) ∧ Below w.heap.size w w'
set_option maxRecDepth 100000 in
set_option maxHeartbeats 400000 in
theorem open_short (a : Option Addr) (n c : Nat) (l : List Int) (w : World) (h : RdAt .u8 w a n c l) (hn : n < 4) :
    Calls Try.prog 61 #[.slice a n c] w (GivesOpen l w) := by
  have e1 : openE l = 21 := by unfold openE; rw [if_pos (by rw [h.len]; exact hn)]
  have e2 : openL l = [] := by unfold openL openOk; rw [decide_eq_false (by rw [h.len]; omega)]; rfl
  have E1 := Lib.hid e1
  have E2 := Lib.hid e2
  clear e1 e2
  go_enter Try.func61, Try.ntmps61
  go_wp2
  go_ret2
  exact ⟨.slice none 0 0, by rw [E1.out]; rfl, by rw [E2.out]; exact Owns.nil _ _ _ _, Below.refl _ _⟩
set_option maxRecDepth 100000 in
theorem get4f (l : List Int) (w : World) (a : Option Addr) (c : Nat) (h : RdAt .u8 w a 4 c l) :
    Calls Try.prog 62 #[.slice a 4 c, .int .i64 4] w fun e w' => e = .returned (.tuple #[.int .u64 (getK l 4), .bool true]) ∧ w = w' := get_any a 4 c l 4 w h
set_option maxRecDepth 100000 in
theorem get4 (l : List Int) (w : World) (a : Option Addr) (c : Nat) (h : RdAt .u8 w a 4 c l) :
    Calls Try.prog 62 #[.slice a 4 c, .int .i64 4] w fun e w' => e = .returned (.tuple #[.int .u64 (getK l 4), .bool true]) ∧ w = w' := get_any a 4 c l 4 w h
set_option maxRecDepth 100000 in
set_option maxHeartbeats 400000 in
theorem open_long (b o m c : Nat) (l : List Int) (w : World) (h : RdAt .u8 w (some ⟨b, o, none⟩) (m + 4) c l) (hn : m ≤ 1000000) :
    Calls Try.prog 61 #[.slice (some ⟨b, o, none⟩) (m + 4 : Nat) c] w (GivesOpen l w) := by
  have hcap := h.cap
  have hmax := h.max
  unfold maxLen at hmax
  have hd : RdAt .u8 w (some ⟨b, o + m, none⟩) 4 (c - m) (l.drop m) := by have := h.drop m (by omega); rwa [Nat.add_sub_cancel_left] at this
  have ht := (RdAt.take h m (by omega))
  have hbs := hd.bytes
  have hG := getK_bd (l.drop m) 4 (fun i _ => hbs.at i)
  have HG := Lib.hid (get4 _ w _ _ hd)
  have hG1 := hG.1
  have hG2 : getK (l.drop m) 4 ≤ 4294967295 := by have := hG.2; omega
  clear hG
  have hl := h.len
  have hm : l.length - 4 = m := by omega
  have hdec1 : decide ((m : Int) + 4 < 4) = false := decide_eq_false (by omega)
  by_cases heq : getK (l.drop m) 4 = rnum (sumB (l.take m))
  · have e0 : openOk l = true := by unfold openOk; rw [hm, decide_eq_true heq, decide_eq_true (by omega : 4 ≤ l.length)]; rfl
    have E1 : Hid (openE l = 0) := by show _ = _; unfold openE; rw [if_neg (by omega), if_pos e0]
    have E2 : Hid (openL l = l.take m) := by show _ = _; unfold openL; rw [if_pos e0, hm]
    have hne : (getK (l.drop m) 4 != rnum (sumB (l.take m))) = false := by rw [heq]; simp
    have HE := Lib.hid heq
    clear e0 heq hl hm
    generalize getK (l.drop m) 4 = G at *
    go_enter Try.func61, Try.ntmps61
    go_wp2_with fail
    refine HG.out.mono ?_
    rintro e w' ⟨rfl, rfl⟩
    go_wp2_with fail
    refine (sum_one _ _ (l.take m) _ (PartsAt.one ht _)).mono ?_
    rintro e w1 ⟨rfl, hb⟩
    replace hb := below_boxed hb
    have ht1 := ht.below hb
    go_wp2_with fail
    refine (clone_any _ _ _ _ _ ht1 (by omega)).mono ?_
    rintro e w2 ⟨v, rfl, ho, hb2⟩
    go_wp2_with fail
    go_ret2
    exact ⟨v, by rw [E1.out]; rfl, by rw [E2.out]; exact ho.mono hb.size, hb.trans (hb2.mono hb.size)⟩
  · have e0 : openOk l = false := by unfold openOk; rw [hm, decide_eq_false heq, Bool.and_false]
    have E1 : Hid (openE l = 23) := by show _ = _; unfold openE; rw [if_neg (by omega), e0]; rfl
    have E2 : Hid (openL l = []) := by show _ = _; unfold openL; rw [e0]; rfl
    have hne : (getK (l.drop m) 4 != rnum (sumB (l.take m))) = true := by simpa using heq
    clear e0 heq hl hm
    generalize getK (l.drop m) 4 = G at *
    go_enter Try.func61, Try.ntmps61
    go_wp2_with fail
    refine HG.out.mono ?_
    rintro e w' ⟨rfl, rfl⟩
    go_wp2_with fail
    refine (sum_one _ _ (l.take m) _ (PartsAt.one ht _)).mono ?_
    rintro e w1 ⟨rfl, hb⟩
    replace hb := below_boxed hb
    go_wp2_with fail
    go_ret2
    exact ⟨.slice none 0 0, by rw [E1.out]; rfl, by rw [E2.out]; exact Owns.nil _ _ _ _, hb⟩
set_option maxRecDepth 100000 in
theorem open_any (a : Option Addr) (n c : Nat) (l : List Int) (w : World) (h : RdAt .u8 w a n c l) (hn : n ≤ 1000000) :
    Calls Try.prog 61 #[.slice a n c] w (GivesOpen l w) := by
  by_cases hs : n < 4
  · exact open_short a n c l w h hs
  · obtain ⟨m, rfl⟩ : ∃ m, n = m + 4 := ⟨n - 4, by omega⟩
    obtain ⟨b, o, rfl, _⟩ := h.cell 0 (by omega)
    exact open_long b o m c l w h (by omega)
end Go.Proofs.Ytlhpdkapddnbcaa

namespace Go.Proofs.Ytlhpdkapddnbcaa
open Go.RowKit
section
variable {P : Program} {k : IntKind} {T e tn bytes : Nat} {ops : Array Oper} {rest : List Oper} {o : Oper} {a : Act} {Q : Exit → Act → World → Prop}
theorem zeroCells_int (q : Nat) : (Builtin.zeroCells (Value.int k 0).cells q).toList = (List.replicate q (0 : Int)).map (Value.int k) := by
  apply List.ext_getElem
  · rw [Array.length_toList, size_zeroCells, List.length_map, List.length_replicate]
    simp [Value.cells]
  · intro i h1 h2
    rw [Array.length_toList, size_zeroCells] at h1
    simp only [Array.getElem_toList, List.getElem_map, List.getElem_replicate]
    simp [Builtin.zeroCells, Value.cells, Nat.mod_one]
theorem run_app_zeros (hT : P.underlying T = some (.slice e)) (hN : P.underlying tn = some (.int .i64)) (hI : elemInfo P e k bytes) (hby : bytes ≤ 8) (hz : (Lit.int k 0).wf = true) (ty : TypeId) (w : World) (base : Nat) (v : Value) (l : List Int) (hown : Owns k e w base v l)
    (q : Nat) (hlen : l.length + q ≤ 1099511627776) (hbase : base ≤ w.heap.size) :
    ∃ v' w', (Builtin.append_ #[T, tn] ty #[v, .int .i64 (q : Int)]).run P w = .ok v' w' ∧ Owns k e w' base v' (l ++ List.replicate q 0) ∧ Grows w v w' v' := by
  have hwf : ∀ z ∈ l ++ List.replicate q (0 : Int), (Lit.int k z).wf = true := by
    intro z hz'
    rcases List.mem_append.1 hz' with h | h
    · exact hown.1 z h
    · rw [(List.mem_replicate.1 h).2]; exact hz
  obtain ⟨i, hi, hz0, hz1, hz2⟩ := info_parts hI
  obtain ⟨a0, c0, rfl⟩ := hown.shape
  have hcap := (cap_of_owns hown).1
  have hw : IntKind.i64.wrap (q : Int) = q := by rw [IntKind.wrap_i64]; omega
  have hneg : ¬ ((q : Int) < 0) := by omega
  have h48i : ¬ (281474976710656 < (q : Int) * (i.bytes : Int)) := by
    rw [hz2, ← Int.natCast_mul]
    have : q * bytes ≤ q * 8 := Nat.mul_le_mul_left _ hby
    omega
  by_cases hq : q = 0
  · subst hq
    refine ⟨.slice a0 l.length c0, w, ?_, by simpa using hown, Grows.refl _ _⟩
    cases a0 <;> simp [Builtin.append_, run_underlying hT, run_underlying hN, sizeOf, typeInfo, hi, asInt, asIntOf, storeCells, hcap, IntKind.wrap_i64]
  have hbb : (l.length + q) * bytes ≤ (l.length + q) * 8 := Nat.mul_le_mul_left _ hby
  have grown : ∀ (olds : List Value), olds = l.map (Value.int k) → c0 < l.length + q → (w.drew.alloc (.cells (olds.toArray ++ Builtin.zeroCells (Value.int k 0).cells q ++ Builtin.zeroCells (Value.int k 0).cells (grownCap w (l.length + q) c0 e - (l.length + q))) e)).ownsRow base e 1
      (.slice (some ⟨w.heap.size, 0, none⟩) (l.length + q) (grownCap w (l.length + q) c0 e)) (l ++ List.replicate q (0 : Int)).length ((l ++ List.replicate q (0 : Int)).map (Value.int k)) := by
    intro olds ho hlt
    have hge := grownCap_ge w (l.length + q) c0 e
    have hcm : grownCap w (l.length + q) c0 e ≤ maxLen := grownCap_le_maxLen w (l.length + q) c0 e (by unfold maxLen; omega)
    refine ⟨by simp, .inr ⟨w.heap.size, _, _, by rw [List.length_append, List.length_replicate], hbase, heap_alloc_new w.drew _, by rw [List.length_append, List.length_replicate]; exact hge, hcm, ?_, ?_⟩⟩
    · rw [Array.size_append, Array.size_append, size_zeroCells, size_zeroCells, List.size_toArray, ho, List.length_map]
      simp [Value.cells]
      omega
    · rw [Array.toList_append, Array.toList_append, zeroCells_int, ho, List.map_append, Nat.mul_one]
      exact List.take_left' (by simp)
  have hgr : ∀ (x : Obj), Grows w (.slice a0 l.length c0) (w.drew.alloc x) (.slice (some ⟨w.heap.size, 0, none⟩) (l.length + q) (grownCap w (l.length + q) c0 e)) := fun x =>
    ⟨⟨rfl, rfl, rfl, by simp, fun j hj _ => Below.heap_alloc w.drew _ j hj⟩, .inr fun g hg => by
      have := room_some hg
      simp [Value.ownBlock] at this
      omega⟩
  by_cases hroom : l.length + q ≤ c0
  · have hrow : w.ownsRow base e 1 (.slice a0 l.length c0) l.length (l.map (Value.int k)) := by
      rcases hown.2 with ⟨_, a1, hv, _⟩ | h2
      · injection hv with _ h2 h3
        omega
      · exact h2
    rcases hrow.2 with ⟨hv, hn⟩ | ⟨g, cap, cur, hv, hbg, hg, hnc, hcm, hcs, htake⟩
    · injection hv with _ _ h3
      omega
    · injection hv with hv1 hv2 hv3
      subst hv1 hv3
      have hst := run_storeCells_at P g l.length e ((List.replicate q (0 : Int)).map (Value.int k)) 0 cur w hg (by rw [List.length_map, List.length_replicate]; omega) (ints_oneCell k _)
      simp only [Nat.add_zero, List.length_map, List.length_replicate] at hst
      have hgr2 : w.grownBy (w.setRow g (cur.toList.take l.length ++ (List.replicate q (0 : Int)).map (Value.int k) ++ cur.toList.drop (l.length + q)).toArray) (some g) := ⟨rfl, rfl, rfl, by simp, fun j _ hj => setRow_other w g j _ (fun e => hj (by rw [e]))⟩
      refine ⟨.slice (some ⟨g, 0, none⟩) (l.length + q) c0, w.setRow g (cur.toList.take l.length ++ (List.replicate q (0 : Int)).map (Value.int k) ++ cur.toList.drop (l.length + q)).toArray, ?_, ⟨hwf, .inr ⟨by simp, .inr ⟨g, c0, _, by rw [List.length_append, List.length_replicate], hbg, setRow_heap w g cur _ e _ hg, by rw [List.length_append, List.length_replicate]; exact hroom, hcm, ?_, ?_⟩⟩⟩, ?_, .inl ?_⟩
      · have hq0 : ¬ (q * 1 = 0) := by omega
        have hzc := zeroCells_int (k := k) q
        simp [Builtin.append_, run_underlying hT, run_underlying hN, sizeOf, typeInfo, zeroValue, hi, hz0, hz1, asInt, asIntOf, hw, hneg, h48i, hroom, hq, Addr.add_lit]
        rw [hzc]
        simp only [List.map_replicate] at hst ⊢
        rw [hst]
        simp
      · simp only [List.size_toArray, List.length_append, List.length_take, List.length_drop, Array.length_toList, List.length_map, List.length_replicate]
        omega
      · rw [show ∀ (x : List Value), x.toArray.toList = x from fun x => rfl]
        have h1 : cur.toList.take l.length = l.map (Value.int k) := by simpa using htake
        rw [h1, List.map_append, Nat.mul_one]
        exact List.take_left' (by simp)
      · have hrm : room (.slice (some ⟨g, 0, none⟩) l.length c0) = some g := if_neg (by omega)
        rw [hrm]
        exact hgr2
      · exact (show room (.slice (some ⟨g, 0, none⟩) (l.length + q) c0) = some g from if_neg (by omega)).trans (show room (.slice (some ⟨g, 0, none⟩) l.length c0) = some g from if_neg (by omega)).symm
  · have hlt : c0 < l.length + q := by omega
    have hfit : Builtin.nextslicecap (l.length + q) c0 * i.bytes ≤ 281474976710656 := growslice_fits (by omega) (by rw [hz2]; omega)
    have hold : (Builtin.firstCells i.size l.length (.slice a0 l.length c0)).run P w.drew = .ok (l.map (Value.int k)).toArray w.drew := by
      cases a0 with
      | none =>
        have hl0 : l = [] := by
          have := hown.rd.void rfl
          exact List.eq_nil_of_length_eq_zero (by omega)
        subst hl0
        simp [Builtin.firstCells]
      | some ad =>
        refine run_firstCells_some (P := P) w.drew i.size l.length ad l.length c0 (l.map (Value.int k)) (by rw [List.length_map, hz1, Nat.mul_one]) (fun j u hu => ?_)
        have hj : j < l.length := by have := (List.getElem?_eq_some_iff.1 hu).1; simpa using this
        obtain ⟨b, o', e', hc⟩ := hown.rd.cell j hj
        injection e' with e'
        subst e'
        rw [Addr.add_lit]
        rw [List.getElem?_map, List.getElem?_eq_getElem hj] at hu
        rw [nth_eq hj] at hc
        exact hc.trans hu
    have hr := Lib.run_append_grow_zeros w T tn ty e i (.int k 0) .i64 .i64 hT hN hi hz0 a0 l.length c0 (l.map (Value.int k)) hold q (by omega) (by omega) hlt (by omega) (by rw [hz2]; have : q * bytes ≤ q * 8 := Nat.mul_le_mul_left _ hby; omega) hfit
    exact ⟨_, _, hr, ⟨hwf, .inr (grown _ rfl hlt)⟩, hgr _⟩
theorem app_zeros (hT : P.underlying T = some (.slice e)) (hN : P.underlying tn = some (.int .i64)) (hI : elemInfo P e k bytes) (hby : bytes ≤ 8) (hz : (Lit.int k 0).wf = true) (hg : o.guard = none) (s x : Operand)
    (ho : o.op = .call { callee := .builtin .append, args := #[s, x], argTypes := #[T, tn] }) (w : World) (base : Nat) (v : Value) (l : List Int) (hs : a.eval s = v) (hown : Owns k e w base v l)
    (q : Nat) (hx : a.eval x = .int .i64 (q : Int)) (hlen : l.length + q ≤ 1099511627776) (hbase : base ≤ w.heap.size)
    (h : ∀ v' w', Owns k e w' base v' (l ++ List.replicate q 0) → Grows w v w' v' → wpList P ops Q rest (a.put o.dst v') w') :
    wpList P ops Q (o :: rest) a w := by
  refine wpList_plain hg fun K hK => ?_
  obtain ⟨v', w', hr, h1, h2⟩ := run_app_zeros (P := P) hT hN hI hby hz o.type w base v l hown q hlen hbase
  unfold Oper.wp execOp
  simp only [ho, resolve, invoke, builtin, Sem.run_bind, Sem.run_pure, Result.andThen_ok, List.map_toArray, List.map_cons, List.map_nil, hs, hx, hr]
  exact hK _ _ (h v' w' h1 h2)
end
end Go.Proofs.Ytlhpdkapddnbcaa

namespace Go.Proofs.Ytlhpdkapddnbcaa
open Go.RowKit
structure Hd where
  turn : Int
  first : Int
  next : Int
  start : Int
def Hd.val (h : Hd) : Value := .agg #[.int .u64 h.turn, .int .u64 h.first, .int .u64 h.next, .int .i64 h.start]
structure Hd.Wf (h : Hd) : Prop where
  t0 : 0 ≤ h.turn
  t1 : h.turn ≤ 18446744073709551615
  f0 : 0 ≤ h.first
  f1 : h.first ≤ 18446744073709551615
  n0 : 0 ≤ h.next
  n1 : h.next ≤ 18446744073709551615
  s0 : 0 ≤ h.start
  s1 : h.start ≤ 65536
structure Jr where
  lo : Nat
  n : Nat
  size : Nat
  h : Hd
  ks : List Nat
def sumN : List Nat → Nat
  | [] => 0
  | x :: r => x + sumN r
theorem sumN_app : ∀ (a b : List Nat), sumN (a ++ b) = sumN a + sumN b
  | [], b => by simp [sumN]
  | x :: r, b => by simp [sumN, sumN_app r b, Nat.add_assoc]
def zs (l : List Nat) : List Int := l.map (fun (k : Nat) => (k : Int))
/-- A journal's block. -/
def rowJ (d : Nat) (sv : Value) (J : Jr) : Obj := .cells #[.pointer (some ⟨d, 0, none⟩), .int .i64 (J.lo : Int), .int .i64 (J.n : Int), .int .i64 (J.size : Int), .int .u64 J.h.turn, .int .u64 J.h.first, .int .u64 J.h.next, .int .i64 J.h.start, sv] 78 (0, 0)
/-- Its numbers, as they may be. -/
structure JOk (J : Jr) : Prop where
  n4 : 4 ≤ J.n
  n1 : J.n ≤ 65536
  lo : J.lo ≤ 65536
  s0 : 64 ≤ J.size
  s1 : J.size ≤ 4096
  h : J.h.Wf
  st : J.h.start < (J.n : Int) - 2
  ks : sumN J.ks ≤ J.n - 2
  kp : ∀ k ∈ J.ks, 1 ≤ k
/-- A disk that a journal of these numbers lies on. -/
structure DOk (st : Dk) (J : Jr) : Prop where
  size : st.size = J.size
  n : J.lo + J.n ≤ st.kept.length
def hd0 : Hd := ⟨0, 0, 0, 0⟩
theorem hd0_wf : hd0.Wf := ⟨by decide, by decide, by decide, by decide, by decide, by decide, by decide, by decide⟩
theorem cellsJ {w : World} {r d : Nat} {sv : Value} {J : Jr} (h : w.heap[r]? = some (rowJ d sv J)) : w.cell? ⟨r, 0, none⟩ = some (.pointer (some ⟨d, 0, none⟩)) ∧ w.cell? ⟨r, 1, none⟩ = some (.int .i64 (J.lo : Int)) ∧ w.cell? ⟨r, 2, none⟩ = some (.int .i64 (J.n : Int)) ∧ w.cell? ⟨r, 3, none⟩ = some (.int .i64 (J.size : Int)) ∧ w.cell? ⟨r, 4, none⟩ = some (.int .u64 J.h.turn) ∧ w.cell? ⟨r, 5, none⟩ = some (.int .u64 J.h.first) ∧ w.cell? ⟨r, 6, none⟩ = some (.int .u64 J.h.next) ∧ w.cell? ⟨r, 7, none⟩ = some (.int .i64 J.h.start) ∧ w.cell? ⟨r, 8, none⟩ = some sv ∧ ∀ i, w.frozen? ⟨r, i, none⟩ = false := by
  unfold rowJ at h
  obtain ⟨c0, c1, c2, c3, c4, c5, c6, c7, c8, cf⟩ := cellsD h
  exact ⟨c0, c1, c2, c3, c4, c5, c6, c7, c8, cf⟩
set_option maxRecDepth 100000 in
theorem area_any (r d : Nat) (sv : Value) (J : Jr) (w : World) (h : w.heap[r]? = some (rowJ d sv J)) (ok : JOk J) :
    Calls Try.prog 32 #[.pointer (some ⟨r, 0, none⟩)] w fun e w' => e = .returned (.int .i64 ((J.n : Int) - 2)) ∧ w = w' := by
  obtain ⟨c0, c1, c2, c3, c4, c5, c6, c7, c8, cf⟩ := cellsJ h
  have h4 := ok.n4
  have h5 := ok.n1
  clear ok h
  go_enter Try.func32, Try.ntmps32
  go_wp2
  go_ret
  exact ⟨rfl, rfl⟩
set_option maxRecDepth 100000 in
theorem room_any (r d : Nat) (sv : Value) (J : Jr) (w : World) (h : w.heap[r]? = some (rowJ d sv J)) (ok : JOk J) :
    Calls Try.prog 35 #[.pointer (some ⟨r, 0, none⟩)] w fun e w' => e = .returned (.int .i64 ((J.size : Int) - 18)) ∧ w = w' := by
  obtain ⟨c0, c1, c2, c3, c4, c5, c6, c7, c8, cf⟩ := cellsJ h
  have h4 := ok.s0
  have h5 := ok.s1
  clear ok h
  go_enter Try.func35, Try.ntmps35
  go_wp2
  go_ret
  exact ⟨rfl, rfl⟩
set_option maxRecDepth 100000 in
theorem first_any (r d : Nat) (sv : Value) (J : Jr) (w : World) (h : w.heap[r]? = some (rowJ d sv J)) :
    Calls Try.prog 20 #[.pointer (some ⟨r, 0, none⟩)] w fun e w' => e = .returned (.int .u64 J.h.first) ∧ w = w' := by
  obtain ⟨c0, c1, c2, c3, c4, c5, c6, c7, c8, cf⟩ := cellsJ h
  clear h
  go_enter Try.func20, Try.ntmps20
  go_wp2
  go_ret
  exact ⟨rfl, rfl⟩
set_option maxRecDepth 100000 in
theorem next_any (r d : Nat) (sv : Value) (J : Jr) (w : World) (h : w.heap[r]? = some (rowJ d sv J)) :
    Calls Try.prog 21 #[.pointer (some ⟨r, 0, none⟩)] w fun e w' => e = .returned (.int .u64 J.h.next) ∧ w = w' := by
  obtain ⟨c0, c1, c2, c3, c4, c5, c6, c7, c8, cf⟩ := cellsJ h
  clear h
  go_enter Try.func21, Try.ntmps21
  go_wp2
  go_ret
  exact ⟨rfl, rfl⟩
/-- How many sectors a record of n bytes takes. -/
def ndN (size : Nat) (n : Nat) : Nat := max ((n + (size - 18) - 1) / (size - 18)) 1
theorem i64_small {x : Int} (h1 : -9223372036854775808 ≤ x) (h2 : x ≤ 9223372036854775807) : IntKind.i64.wrap x = x := by rw [IntKind.wrap_i64]; omega
set_option maxRecDepth 100000 in
set_option linter.unusedSimpArgs false in
set_option maxHeartbeats 2000000 in
theorem needs_any (r d : Nat) (sv : Value) (J : Jr) (n : Nat) (w : World) (h : w.heap[r]? = some (rowJ d sv J)) (ok : JOk J) (hn : n ≤ 1000000000) :
    Calls Try.prog 34 #[.pointer (some ⟨r, 0, none⟩), .int .i64 (n : Int)] w fun e w' => e = .returned (.int .i64 (ndN J.size n : Nat)) ∧ w = w' := by
  have HR : Hid (∀ w', w = w' → Calls Try.prog 35 #[.pointer (some ⟨r, 0, none⟩)] w' fun e w'' => e = .returned (.int .i64 ((J.size : Int) - 18)) ∧ w' = w'') := fun w' h' => by subst h'; exact room_any r d sv J w h ok
  have h4 := ok.s0
  have h5 := ok.s1
  obtain ⟨R, hR⟩ : ∃ R : Nat, J.size - 18 = R := ⟨_, rfl⟩
  have hR1 : (J.size : Int) - 18 = R := by omega
  have hR2 : 46 ≤ R := by omega
  have hR3 : R ≤ 4096 := by omega
  obtain ⟨q, hq0⟩ : ∃ q, (n + R - 1) / R = q := ⟨_, rfl⟩
  have hq : q ≤ n + R - 1 := by rw [← hq0]; exact Nat.div_le_self _ _
  have e1 : wrap64 ((n : Int) + (R : Int)) = (n : Int) + R := by unfold wrap64; omega
  have e2 : wrap64 ((n : Int) + (R : Int) - 1) = ((n + R - 1 : Nat) : Int) := by unfold wrap64; omega
  have e3 : ((n + R - 1 : Nat) : Int).tdiv (R : Int) = (q : Int) := by rw [Int.tdiv_eq_ediv_of_nonneg (by omega), ← hq0]; exact Int.natCast_ediv _ _ |>.symm
  have e4 : wrap64 (q : Int) = (q : Int) := by unfold wrap64; omega
  have HW : Hid (wrap64 ((wrap64 (wrap64 ((n : Int) + (R : Int)) - 1)).tdiv (R : Int)) = (q : Int)) := by show _ = _; rw [e1, e2, e3, e4]
  clear e1 e2 e3 e4
  have d0 : ((R : Int) == 0) = false := by rw [beq_eq_false_iff_ne]; omega
  have d1 : ((R : Int) == -1) = false := by rw [beq_eq_false_iff_ne]; omega
  have HN : Hid (ndN J.size n = max q 1) := by show _ = _; unfold ndN; rw [hR, hq0]
  rw [hR1] at HR
  clear h ok h4 h5 hR hR1 hq0 hR3 hq
  have d4 : (R : Int) ≠ 0 := by omega
  have d5 : (R : Int) ≠ -1 := by omega
  go_enter Try.func34, Try.ntmps34
  go_wp2_with (first | (go_at_call 35; refine (HR.out _ rfl).mono ?_; rintro e w1 ⟨rfl, rfl⟩))
  all_goals (go_ret; rw [HW.out] at h; rw [HN.out]; refine ⟨?_, rfl⟩)
  · show Ending.returned (Value.int .i64 1) = _
    rw [show max q 1 = 1 by omega]
    rfl
  · show Ending.returned (Value.int .i64 _) = _
    rw [HW.out, show max q 1 = q by omega]
def Jr.used (J : Jr) : Nat := sumN J.ks
theorem sumN_take : ∀ (l : List Nat) (k : Nat), k < l.length → sumN (l.take (k + 1)) = sumN (l.take k) + l.getD k 0
  | [], k, h => by simp at h
  | x :: r, 0, _ => by simp [sumN]
  | x :: r, k + 1, h => by
    have := sumN_take r k (by simpa using h)
    simp only [List.take_succ_cons, sumN, this]
    simp [Nat.add_assoc]
theorem sumN_le (l : List Nat) (k : Nat) : sumN (l.take k) ≤ sumN l := by
  have h := sumN_app (l.take k) (l.drop k)
  rw [List.take_append_drop] at h
  omega
theorem nth_zs (l : List Nat) (k : Nat) : nth (zs l) k = (l.getD k 0 : Nat) := by
  unfold nth zs
  simp only [List.getD, List.getElem?_map]
  cases l[k]? <;> rfl
set_option maxRecDepth 100000 in
set_option linter.unusedSimpArgs false in
set_option linter.unusedVariables false in
set_option maxHeartbeats 2000000 in
theorem used_any (r d : Nat) (sv : Value) (J : Jr) (w : World) (h : w.heap[r]? = some (rowJ d sv J)) (ok : JOk J) (ho : Owns .i64 3 w 0 sv (zs J.ks)) :
    Calls Try.prog 33 #[.pointer (some ⟨r, 0, none⟩)] w fun e w' => e = .returned (.int .i64 (sumN J.ks : Nat)) ∧ w = w' := by
  obtain ⟨c0, c1, c2, c3, c4, c5, c6, c7, c8, cf⟩ := cellsJ h
  obtain ⟨n, hn⟩ : ∃ n, J.ks.length = n := ⟨_, rfl⟩
  obtain ⟨a, c, rfl⟩ := ho.shapeN n (by unfold zs; rw [List.length_map, hn])
  have hr := ho.rd
  have hm : n ≤ maxLen := Nat.le_trans hr.cap hr.max
  unfold maxLen at hm
  have hk := ok.ks
  have h1 := ok.n1
  have HR := Lib.hid hr
  have HN := Lib.hid hn
  obtain ⟨S, hS⟩ : ∃ S, sumN J.ks = S := ⟨_, rfl⟩
  have hS1 : S ≤ 65536 := by omega
  have HS := Lib.hid hS
  rw [hS]
  clear ho h ok hr hn hk h1 c0 c1 c2 c3 c4 c5 c6 c7
  go_enter Try.func33, Try.ntmps33
  go_wp2_with fail
  go_loop [3, 11] (fun x i => ∃ (k s : Nat), k ≤ n ∧ s ≤ S ∧ i = .int .i64 k ∧ x = .int .i64 s ∧ Hid (s = sumN (J.ks.take k))) (fun _ i => n - (intOf i).toNat)
  case atStart => exact ⟨0, 0, by omega, by omega, rfl, rfl, rfl⟩
  case round =>
    obtain ⟨k, s, hk, hs, rfl, rfl, HK⟩ := hrel
    by_cases hkm : k < n
    · have dkm : decide ((k : Int) < n) = true := decide_eq_true (by omega)
      obtain ⟨b, o, rfl, hc⟩ := HR.out.cell k hkm
      rw [nth_zs] at hc
      obtain ⟨x, hx⟩ : ∃ x, J.ks.getD k 0 = x := ⟨_, rfl⟩
      rw [hx] at hc
      have hs2 : s + x = sumN (J.ks.take (k + 1)) := by rw [sumN_take _ _ (by rw [HN.out]; exact hkm), ← HK.out, hx]
      have hs3 : s + x ≤ S := by rw [hs2, ← HS.out]; exact sumN_le _ _
      have HK2 := Lib.hid hs2
      clear hx hs2
      go_wp2_with fail
      go_round
      case rel => exact ⟨k + 1, s + x, by omega, by omega, by go_num, by go_num, HK2⟩
      case measure => simp [intOf] <;> omega
    · obtain rfl : k = n := by omega
      have e : s = S := by rw [HK.out, ← HS.out, ← HN.out, List.take_length]
      subst e
      go_wp2_with fail
      go_ret
      exact ⟨rfl, rfl⟩
/-- How many bytes the next record may have. -/
def roomN (J : Jr) : Int := if sumN J.ks = J.n - 2 then -1 else min (((J.n - 2 - sumN J.ks) * (J.size - 32) : Nat) : Int) 1048576
set_option maxRecDepth 100000 in
set_option linter.unusedSimpArgs false in
set_option linter.unusedVariables false in
set_option maxHeartbeats 2000000 in
theorem rroom_any (r d : Nat) (sv : Value) (J : Jr) (w : World) (h : w.heap[r]? = some (rowJ d sv J)) (ok : JOk J) (ho : Owns .i64 3 w 0 sv (zs J.ks)) :
    Calls Try.prog 11 #[.pointer (some ⟨r, 0, none⟩)] w fun e w' => e = .returned (.int .i64 (roomN J)) ∧ w = w' := by
  have HA : Hid (∀ w', w = w' → Calls Try.prog 32 #[.pointer (some ⟨r, 0, none⟩)] w' fun e w'' => e = .returned (.int .i64 ((J.n : Int) - 2)) ∧ w' = w'') := fun w' h' => by subst h'; exact area_any r d sv J w h ok
  have HU : Hid (∀ w', w = w' → Calls Try.prog 33 #[.pointer (some ⟨r, 0, none⟩)] w' fun e w'' => e = .returned (.int .i64 (sumN J.ks : Nat)) ∧ w' = w'') := fun w' h' => by subst h'; exact used_any r d sv J w h ok ho
  obtain ⟨c0, c1, c2, c3, c4, c5, c6, c7, c8, cf⟩ := cellsJ h
  have h1 := ok.n1
  have h2 := ok.n4
  have h3 := ok.ks
  have h4 := ok.s0
  have h5 := ok.s1
  obtain ⟨U, hU⟩ : ∃ U, sumN J.ks = U := ⟨_, rfl⟩
  rw [hU] at HU h3
  obtain ⟨F, hF⟩ : ∃ F : Nat, J.n - 2 - U = F := ⟨_, rfl⟩
  have e1 : (J.n : Int) - 2 - U = F := by omega
  obtain ⟨q, hq⟩ : ∃ q : Nat, J.size - 32 = q := ⟨_, rfl⟩
  have e2 : (J.size : Int) - 32 = q := by omega
  have e3 : F * q ≤ 65536 * 4096 := Nat.mul_le_mul (by omega) (by omega)
  have e4 : ((F : Int)) * (q : Int) = ((F * q : Nat) : Int) := by rw [Int.natCast_mul]
  have HRM : Hid (roomN J = if F = 0 then -1 else min ((F * q : Nat) : Int) 1048576) := by
    show _ = _
    unfold roomN
    rw [hU, hF, hq]
    by_cases hf : F = 0
    · rw [if_pos hf, if_pos (by omega)]
    · rw [if_neg hf, if_neg (by omega)]
  obtain ⟨p, hp⟩ : ∃ p : Nat, F * q = p := ⟨_, rfl⟩
  rw [hp] at e3 e4 HRM
  clear h ok ho
  by_cases hf : F = 0
  · subst hf
    have d0 : ((J.n : Int) - 2 - U) = 0 := by omega
    have HRM1 : Hid (roomN J = -1) := by show _ = _; rw [HRM.out]; rfl
    clear e4 HRM hp hq e2 e3 hU
    go_enter Try.func11, Try.ntmps11
    go_wp2_with (first | (go_at_call 32; refine (HA.out _ rfl).mono ?_; rintro e w1 ⟨rfl, rfl⟩) | (go_at_call 33; refine (HU.out _ rfl).mono ?_; rintro e w1 ⟨rfl, rfl⟩))
    go_ret
    rw [HRM1.out]
    exact ⟨rfl, rfl⟩
  · have d0 : ((J.n : Int) - 2 - U) ≠ 0 := by omega
    have HRM1 : Hid (roomN J = min (p : Int) 1048576) := by show _ = _; rw [HRM.out, if_neg hf]
    have EE : Hid (wrap64 ((F : Int) * (q : Int)) = (p : Int)) := by show _ = _; rw [e4]; unfold wrap64; omega
    clear e4 HRM hp hq hU
    go_enter Try.func11, Try.ntmps11
    go_wp2_with (first | (go_at_call 32; refine (HA.out _ rfl).mono ?_; rintro e w1 ⟨rfl, rfl⟩) | (go_at_call 33; refine (HU.out _ rfl).mono ?_; rintro e w1 ⟨rfl, rfl⟩))
    all_goals (go_ret; rw [EE.out] at h; rw [HRM1.out]; refine ⟨?_, rfl⟩)
    · show Ending.returned (Value.int .i64 1048576) = _
      rw [show min (p : Int) 1048576 = 1048576 by omega]
    · show Ending.returned (Value.int .i64 _) = _
      rw [EE.out, show min (p : Int) 1048576 = p by omega]
/-- A journal in block r; all that it is made of, and its disk, lies in Q. -/
structure RiIn (w : World) (Q : Nat → Prop) (r d : Nat) (st : Dk) (J : Jr) : Prop where
  ex : ∃ Z sv, DkIn w Z d st ∧ w.heap[r]? = some (rowJ d sv J) ∧ Owns .i64 3 w 0 sv (zs J.ks) ∧ (∀ k, Z k → Q k) ∧ Q r ∧ ¬ Z r ∧ (∀ g, room sv = some g → Q g ∧ ¬ Z g ∧ g ≠ r)
  ok : JOk J
  dok : DOk st J
  lt : ∀ k, Q k → k < w.heap.size
theorem RiIn.below {w w' : World} {Q : Nat → Prop} {r d : Nat} {st : Dk} {J : Jr} (h : RiIn w Q r d st J) (b : Below w.heap.size w w') : RiIn w' Q r d st J := by
  obtain ⟨⟨Z, sv, hd, hr, ho, hz, hq, hn, hg⟩, ok, dok, lt⟩ := h
  exact ⟨⟨Z, sv, hd.below b, row_keep hr b, ho.below b, hz, hq, hn, hg⟩, ok, dok, fun k hk => Nat.lt_of_lt_of_le (lt k hk) b.size⟩
set_option linter.unusedSimpArgs false in
set_option linter.unusedVariables false in
set_option maxRecDepth 100000 in
set_option maxHeartbeats 2000000 in
theorem ron_any (Z : Nat → Prop) (d : Nat) (st : Dk) (lo n : Nat) (w : World) (h : DkIn w Z d st) (h4 : 4 ≤ n) (hn : lo + n ≤ st.kept.length) :
    Calls Try.prog 40 #[.pointer (some ⟨d, 0, none⟩), .int .i64 (lo : Int), .int .i64 (n : Int)] w fun e w' => ∃ r, e = .returned (.tuple #[.pointer (some ⟨r, 0, none⟩), .int .i64 0]) ∧ RiIn w' (fun k => Z k ∨ k = r) r d st ⟨lo, n, st.size, hd0, []⟩ ∧ Below w.heap.size w w' ∧ w.heap.size ≤ r := by
  have HD := Lib.hid h
  have hk : st.kept.length ≤ 65536 := by
    obtain ⟨_, kb, mb, pv, kv, vals, pvs, p⟩ := h
    exact p.ok.n.2
  have hs : 64 ≤ st.size ∧ st.size ≤ 4096 := by
    obtain ⟨_, kb, mb, pv, kv, vals, pvs, p⟩ := h
    exact p.ok.size
  clear h
  have HS := Lib.hid hs
  obtain ⟨K, hK⟩ : ∃ K, st.kept.length = K := ⟨_, rfl⟩
  obtain ⟨S, hS⟩ : ∃ S, st.size = S := ⟨_, rfl⟩
  have HSH : Hid (∀ w1, DkIn w1 Z d st → Calls Try.prog 60 #[.pointer (some ⟨d, 0, none⟩)] w1 fun e w' => e = .returned (.tuple #[.int .i64 (K : Int), .int .i64 (S : Int)]) ∧ Below w1.heap.size w1 w') := fun w1 h1 => by
    rw [← hK, ← hS]
    exact shape_any Z d st w1 h1
  have HK := Lib.hid hK
  have HS2 := Lib.hid hS
  rw [hK] at hn hk
  rw [hS]
  clear hs hK hS
  have d1 : decide ((n : Int) < 4) = false := decide_eq_false (by omega)
  have d2 : decide ((lo : Int) < 0) = false := decide_eq_false (by omega)
  have d3 : decide ((K : Int) < (n : Int)) = false := decide_eq_false (by omega)
  have d4 : decide ((K : Int) - n < (lo : Int)) = false := decide_eq_false (by omega)
  go_enter Try.func40, Try.ntmps40
  go_wp2_with fail
  refine (HSH.out w HD.out).mono ?_
  rintro e w1 ⟨rfl, hb1⟩
  have B1 := Lib.hid hb1
  clear hb1
  go_wp2_with fail
  go_ret2
  have hrow := heap_alloc_new w1 (.cells #[.pointer (some ⟨d, 0, none⟩), .int .i64 (lo : Int), .int .i64 (n : Int), .int .i64 (S : Int), .int .u64 0, .int .u64 0, .int .u64 0, .int .i64 0, .slice none 0 0] 78)
  have hba : Below w1.heap.size w1 (w1.alloc (.cells #[.pointer (some ⟨d, 0, none⟩), .int .i64 (lo : Int), .int .i64 (n : Int), .int .i64 (S : Int), .int .u64 0, .int .u64 0, .int .u64 0, .int .i64 0, .slice none 0 0] 78)) := (Below.refl _ _).alloc (Nat.le_refl _) _
  have hd1 := HD.out.below B1.out
  have hs := HS.out
  rw [HS2.out] at hs
  refine ⟨w1.heap.size, rfl, ⟨⟨Z, .slice none 0 0, hd1.below hba, hrow, Owns.nil _ _ _ _, fun k hk => .inl hk, .inr rfl, fun hz => Nat.lt_irrefl _ (hd1.1 _ hz), fun g hg => by simp [room] at hg⟩, ⟨h4, by show n ≤ 65536; omega, by show lo ≤ 65536; omega, hs.1, hs.2, hd0_wf, by show (0 : Int) < (n : Int) - 2; omega, by show 0 ≤ n - 2; omega, fun k hk => by cases hk⟩, ⟨HS2.out, by show lo + n ≤ _; rw [HK.out]; exact hn⟩, fun k hk => ?_⟩, B1.out.trans (hba.mono B1.out.size), B1.out.size⟩
  rcases hk with hk | rfl
  · exact Nat.lt_of_lt_of_le (hd1.1 k hk) hba.size
  · exact (Array.getElem?_eq_some_iff.1 hrow).1
set_option linter.unusedSimpArgs false in
set_option linter.unusedVariables false in
set_option maxRecDepth 100000 in
set_option maxHeartbeats 2000000 in
theorem ron_no (Z : Nat → Prop) (d : Nat) (st : Dk) (lo n : Nat) (w : World) (h : DkIn w Z d st) (h4 : 4 ≤ n) (hn : n ≤ st.kept.length) (hn2 : st.kept.length < lo + n) (hlo : lo ≤ 1000000) :
    Calls Try.prog 40 #[.pointer (some ⟨d, 0, none⟩), .int .i64 (lo : Int), .int .i64 (n : Int)] w fun e w' => e = .returned (.tuple #[.pointer none, .int .i64 1]) ∧ Below w.heap.size w w' := by
  have HD := Lib.hid h
  have hk : st.kept.length ≤ 65536 := by
    obtain ⟨_, kb, mb, pv, kv, vals, pvs, p⟩ := h
    exact p.ok.n.2
  clear h
  obtain ⟨K, hK⟩ : ∃ K, st.kept.length = K := ⟨_, rfl⟩
  obtain ⟨S, hS⟩ : ∃ S, st.size = S := ⟨_, rfl⟩
  have HSH : Hid (∀ w1, DkIn w1 Z d st → Calls Try.prog 60 #[.pointer (some ⟨d, 0, none⟩)] w1 fun e w' => e = .returned (.tuple #[.int .i64 (K : Int), .int .i64 (S : Int)]) ∧ Below w1.heap.size w1 w') := fun w1 h1 => by
    rw [← hK, ← hS]
    exact shape_any Z d st w1 h1
  rw [hK] at hn hk hn2
  clear hK hS
  have d1 : decide ((n : Int) < 4) = false := decide_eq_false (by omega)
  have d2 : decide ((lo : Int) < 0) = false := decide_eq_false (by omega)
  have d3 : decide ((K : Int) < (n : Int)) = false := decide_eq_false (by omega)
  have d4 : decide ((K : Int) - n < (lo : Int)) = true := decide_eq_true (by omega)
  go_enter Try.func40, Try.ntmps40
  go_wp2_with fail
  refine (HSH.out w HD.out).mono ?_
  rintro e w1 ⟨rfl, hb1⟩
  have B1 := Lib.hid hb1
  clear hb1
  go_wp2_with fail
  go_ret2
  exact ⟨rfl, B1.out⟩
/-- A whole sector of these bytes. -/
def secL (size : Nat) (b : List Int) : List Int := sealL (b ++ List.replicate (size - 4 - b.length) 0)
theorem secL_len {size : Nat} {b : List Int} (h : b.length + 4 ≤ size) : (secL size b).length = size := by
  unfold secL
  rw [seal_len, List.length_append, List.length_replicate]
  omega
set_option maxRecDepth 100000 in
theorem u8TR : Try.prog.underlying 36 = some (.slice 5) := Try.underlying36
set_option maxRecDepth 100000 in
theorem u8IR : elemInfo Try.prog 5 .u8 1 := by unfold elemInfo; kernel_rfl
set_option linter.unusedSimpArgs false in
set_option linter.unusedVariables false in
set_option maxRecDepth 100000 in
set_option maxHeartbeats 2000000 in
theorem sector_any (r d : Nat) (sv : Value) (J : Jr) (w : World) (h : w.heap[r]? = some (rowJ d sv J)) (ok : JOk J) (B : Nat) (v : Value) (l : List Int) (ho : Owns .u8 5 w B v l) (hB : B ≤ w.heap.size) (hl : l.length + 4 ≤ J.size) :
    Calls Try.prog 37 #[.pointer (some ⟨r, 0, none⟩), v] w fun e w' => ∃ v', e = .returned v' ∧ Owns .u8 5 w' w.heap.size v' (secL J.size l) ∧ Below B w w' := by
  obtain ⟨c0, c1, c2, c3, c4, c5, c6, c7, c8, cf⟩ := cellsJ h
  have h1 := ok.s0
  have h2 := ok.s1
  obtain ⟨n, hn⟩ : ∃ n, l.length = n := ⟨_, rfl⟩
  obtain ⟨a, c, rfl⟩ := ho.shapeN n hn
  obtain ⟨q, hq⟩ : ∃ q : Nat, J.size - 4 - n = q := ⟨_, rfl⟩
  have hq2 : (J.size : Int) - 4 - n = q := by omega
  have HE : Hid (secL J.size l = sealL (l ++ List.replicate q 0)) := by show _ = _; unfold secL; rw [hn, hq]
  have HZL : Hid ((l ++ List.replicate q (0 : Int)).length = J.size - 4) := by show _ = _; rw [List.length_append, List.length_replicate]; omega
  have HO := Lib.hid ho
  have HN := Lib.hid hn
  rw [hn] at hl
  clear h ok ho hn hq c0 c1 c2 c4 c5 c6 c7 c8
  go_enter Try.func37, Try.ntmps37
  go_wp2_with (first | (at_builtin; go_loud (refine app_zeros u8TR Try.underlying3 u8IR (by decide) (by decide) rfl (.tmp 5) (.tmp 13) rfl _ B _ _ rfl HO.out q (by show Value.int .i64 _ = Value.int .i64 (q : Int); first | rfl | (congr 1; omega)) (by rw [HN.out]; omega) hB ?_; intro v1 w1 ho1 hg1; have O1 := Lib.hid ho1; have B1 : Hid (Below B w w1) := hg1.below hB (fun g hg => (HO.out.at_base g hg).1); have hs1 := hg1.1.size; obtain ⟨a1, c1, rfl⟩ := ho1.shapeN (J.size - 4) HZL.out; clear ho1 hg1)))
  refine (seal_any a1 (J.size - 4) c1 _ w1 O1.out.rd (by omega)).mono ?_
  rintro e w2 ⟨v2, rfl, ho2, hb2⟩
  have O2 := Lib.hid ho2
  have B2 := Lib.hid hb2
  clear ho2 hb2
  go_wp2_with fail
  go_ret
  rw [HE.out]
  exact ⟨v2, rfl, O2.out.mono hs1, B1.out.trans (B2.out.mono (Nat.le_trans hB hs1))⟩
end Go.Proofs.Ytlhpdkapddnbcaa

namespace Go.Proofs.Ytlhpdkapddnbcaa
open Go.RowKit
/-- Behind operation j nothing is asked any more of what operation i left. -/
def kills (KL : List (Nat × Nat)) (j i : Nat) : Bool := KL.any fun p => p.1 == j && p.2 == i
def killed (KL : List (Nat × Nat)) (i : Nat) : Bool := KL.any fun p => p.2 == i
theorem not_killed {KL : List (Nat × Nat)} {i k : Nat} (h : killed KL i = false) : kills KL k i = false := by
  unfold killed at h
  unfold kills
  rw [List.any_eq_false] at h ⊢
  intro p hp
  have := h p hp
  simp only [Bool.and_eq_true, not_and]
  exact fun _ => this
def killOk (l : List Oper) (f : Nat) (KL : List (Nat × Nat)) (Bs : List (List Nat)) : Bool :=
  (List.range l.length).all fun i => (Bs.getD i []).all fun j => KL.all fun p => p.2 != j || (p.1 == i || waits l f p.1 i)
theorem killOk_get {l : List Oper} {f : Nat} {KL : List (Nat × Nat)} {Bs : List (List Nat)} (h : killOk l f KL Bs = true) : ∀ i, i < l.length → ∀ j ∈ Bs.getD i [], ∀ k, k < l.length → kills KL k j = true → k = i ∨ waits l f k i = true := by
  intro i hi j hj k _ hk
  have h1 := List.all_eq_true.1 (List.all_eq_true.1 (List.all_eq_true.1 h i (by simpa using hi)) j hj)
  obtain ⟨p, hp, he⟩ := List.any_eq_true.1 hk
  simp only [Bool.and_eq_true, beq_iff_eq] at he
  have h2 := h1 p hp
  rw [Bool.or_eq_true, Bool.or_eq_true] at h2
  rcases h2 with e | e | e
  · rw [bne_iff_ne] at e; exact absurd he.2 e
  · rw [beq_iff_eq] at e; exact .inl (he.1.symm.trans e)
  · rw [he.1] at e; exact .inr e
section
variable {P : Program} {Gs : Nat → World → World → Prop} {I : Nat → World → Prop} {F : Nat → Value → World → Prop} {D : List Tmp} {ds : List Deferred} {l : List Oper} {t0 : Array Value}
structure Mid3 (KL : List (Nat × Nat)) (l : List Oper) (I : Nat → World → Prop) (F : Nat → Value → World → Prop) (D : List Tmp) (n : Nat) (t0 : Array Value) (x : Nat → Value) (listed : Array Bool) (t : Array Value) (w : World) : Prop where
  size : listed.size = n
  tsize : t.size = t0.size
  here : ∀ j, j < n → listed.getD j true = true → (D.getD j 0 < t0.size → t[D.getD j 0]? = some (x j)) ∧ ((∀ k, k < n → kills KL k j = true → listed.getD k true = false) → F j (x j) w)
  wait : ∀ j, j < n → listed.getD j true = false → I j w
  fin : I n w
  other : ∀ d, (∀ j, j < n → listed.getD j true = true → D.getD j 0 ≠ d) → t[d]? = t0[d]?
  shut : ∀ j o, l[j]? = some o → listed.getD j true = true → ∀ k ∈ beforeOf o, listed.getD k true = true
theorem reg_mid3 {Q : Exit → Act → World → Prop} {Bs : List (List Nat)} (KL : List (Nat × Nat)) (f : Nat)
    (hF : ∀ i j v w w', i < l.length → j < l.length → j ≠ i → waits l f i j = false → kills KL j i = false → F i v w → Gs j w w' → F i v w')
    (hK : ∀ i, i < l.length → ∀ j ∈ Bs.getD i [], ∀ k, k < l.length → kills KL k j = true → k = i ∨ waits l f k i = true)
    (hI : ∀ i j w w', i ≤ l.length → j < l.length → j ≠ i → waits l f j i = false → I i w → Gs j w w' → I i w')
    (hok : slotsOk2 l D Bs t0.size = true) (hap : slotsApart D l.length = true) (hB : Bs.length = l.length) (ho : Obls2 P Gs I F D ds l t0 l 0 Bs)
    (hQ : ∀ w, I l.length w → Given (fun i v w => killed KL i = false → F i v w) D w t0 (List.range l.length) fun t => Q .normal ⟨t, ds⟩ w) :
    ∀ (fuel : Nat) (x : Nat → Value) (listed : Array Bool) (t : Array Value) (w : World), Mid3 KL l I F D l.length t0 x listed t w → listed.toList.count false = fuel → wpAny P .any l.toArray Q fuel listed ⟨t, ds⟩ w := by
  have hapart : ∀ i j, i < l.length → j < l.length → D.getD i 0 = D.getD j 0 → i = j := by
    intro i j hi hj he
    unfold slotsApart at hap
    have := List.all_eq_true.1 (List.all_eq_true.1 hap i (by simpa using hi)) j (by simpa using hj)
    rw [Bool.or_eq_true] at this
    rcases this with h | h
    · simpa using h
    · rw [he] at h; simp at h
  have hslot : ∀ i o, l[i]? = some o → ((o.dst = some (D.getD i 0) ∧ D.getD i 0 < t0.size) ∨ (o.dst = none ∧ t0.size ≤ D.getD i 0)) ∧ (∀ j ∈ Bs.getD i [], j ∈ beforeOf o) ∧ (∀ j ∈ beforeOf o, j < i) ∧ (∀ cs b, o.op ≠ .select cs b) ∧
      ∀ d ∈ o.looksAt l.toArray, ∀ j oj, l[j]? = some oj → D.getD j 0 = d → j ∈ Bs.getD i [] ∨ i ∈ beforeOf oj := by
    intro i o h
    have hi : i < l.length := (List.getElem?_eq_some_iff.1 h).1
    unfold slotsOk2 at hok
    have h1 := List.all_eq_true.1 hok i (by simpa using hi)
    rw [h] at h1
    simp only [Bool.and_eq_true] at h1
    obtain ⟨⟨⟨⟨a, c⟩, d⟩, e⟩, g⟩ := h1
    refine ⟨?_, fun j hj => by simpa using List.all_eq_true.1 c j hj, fun j hj => by simpa using List.all_eq_true.1 d j hj, fun cs b' he => ?_, fun d' hd' j oj hj hjd => ?_⟩
    · cases hdst : o.dst with
      | none => rw [hdst] at a; exact .inr ⟨rfl, by simpa using a⟩
      | some d => rw [hdst, Bool.and_eq_true, beq_iff_eq] at a; exact .inl ⟨by rw [a.1], by simpa using a.2⟩
    · rw [he] at e; simp at e
    · have := List.all_eq_true.1 (List.all_eq_true.1 g d' hd') j (by simpa using (List.getElem?_eq_some_iff.1 hj).1)
      rw [hj] at this
      simp only [Bool.or_eq_true, bne_iff_ne, ne_eq, hjd, not_true_eq_false, false_or, List.contains_iff_mem] at this
      exact this
  have hfin : ∀ (x : Nat → Value) (listed : Array Bool) (t : Array Value) (w : World), Mid3 KL l I F D l.length t0 x listed t w → (∀ j, j < l.length → listed.getD j true = true) → Q .normal ⟨t, ds⟩ w := by
    intro x listed t w hm hall
    have h1 := (hQ w hm.fin).use x (fun j hj hkl => (hm.here j (by simpa using hj) (hall j (by simpa using hj))).2 (fun k _ hkk => absurd hkk (by rw [not_killed hkl]; simp)))
    have h2 : (List.range l.length).foldl (fun t j => t.setIfInBounds (D.getD j 0) (x j)) t0 = t := by
      apply Array.ext_getElem?
      intro d
      by_cases hd : ∃ j, j < l.length ∧ D.getD j 0 = d
      · obtain ⟨j, hj, rfl⟩ := hd
        by_cases hin : D.getD j 0 < t0.size
        · rw [fold_at x _ _ (by simpa using hj) (fun k hk e => hapart k j (by simpa using hk) hj e) hin, (hm.here j hj (hall j hj)).1 hin]
        · have hin' : t0.size ≤ D.getD j 0 := Nat.le_of_not_lt hin
          have e1 : ((List.range l.length).foldl (fun t j => t.setIfInBounds (D.getD j 0) (x j)) t0).size ≤ D.getD j 0 := by rw [fold_size]; omega
          have e2 : t.size ≤ D.getD j 0 := by rw [hm.tsize]; omega
          rw [Array.getElem?_eq_none e1, Array.getElem?_eq_none e2]
      · rw [fold_other x _ _ (fun j hj e => hd ⟨j, by simpa using hj, e⟩), hm.other d (fun j hj _ e => hd ⟨j, hj, e⟩)]
    rw [h2] at h1
    exact h1
  have hnil : ∀ (x : Nat → Value) (listed : Array Bool) (t : Array Value) (w : World), Mid3 KL l I F D l.length t0 x listed t w → Region.ready .any l.toArray listed = [] → ∀ j, j < l.length → listed.getD j true = true := by
    intro x listed t w hm hr j
    induction j using Nat.strongRecOn with
    | _ j ih =>
      intro hj
      cases hu : listed.getD j true with
      | true => rfl
      | false =>
        obtain ⟨o, hoj⟩ : ∃ o, l[j]? = some o := ⟨_, List.getElem?_eq_getElem hj⟩
        obtain ⟨_, _, hlt, _, _⟩ := hslot j o hoj
        have := ready_of hoj hu (fun k hk => by
          have hkj := hlt k hk
          rw [getD_any false true (by rw [hm.size]; omega)]
          exact ih k hkj (by omega))
        rw [hr] at this
        cases this
  intro fuel
  induction fuel with
  | zero =>
    intro x listed t w hm hc
    have hall : ∀ j, j < l.length → listed.getD j true = true := by
      intro j hj
      have hjs : j < listed.size := by rw [hm.size]; exact hj
      have h0 : false ∉ listed.toList := List.count_eq_zero.1 hc
      cases hu : listed.getD j true with
      | true => rfl
      | false =>
        have : listed.toList[j] = false := by simpa [Array.getD, hjs] using hu
        exact absurd (this ▸ List.getElem_mem _) h0
    refine ⟨?_, hfin x listed t w hm hall⟩
    cases hr : Region.ready .any l.toArray listed with
    | nil => rfl
    | cons i r =>
      obtain ⟨o, hoi, hu, _⟩ := ready_mem (l := l) (listed := listed) (i := i) (by rw [hr]; simp)
      rw [hall i (List.getElem?_eq_some_iff.1 hoi).1] at hu
      cases hu
  | succ fuel ih =>
    intro x listed t w hm hc
    refine ⟨fun hr => hfin x listed t w hm (hnil x listed t w hm hr), fun i hi => ?_⟩
    obtain ⟨o, hoi, hu, hbk⟩ := ready_mem hi
    have hil : i < l.length := (List.getElem?_eq_some_iff.1 hoi).1
    have his : i < listed.size := by rw [hm.size]; exact hil
    obtain ⟨hdst, hbf, hbl, hsel, hlook⟩ := hslot i o hoi
    have hbk' : ∀ k ∈ beforeOf o, k < l.length ∧ listed.getD k true = true := fun k hk => by
      have := hbl k hk
      exact ⟨by omega, by rw [getD_any true false (by rw [hm.size]; omega)]; exact hbk k hk⟩
    have hob := ho.get (Bs := Bs) hB i o hoi
    rw [Nat.zero_add] at hob
    have h1 := (hob w (hm.wait i hil hu)).use x (fun j hj => (hm.here j (hbk' j (hbf j hj)).1 (hbk' j (hbf j hj)).2).2 (fun k hk hkk => by
      cases hlk : listed.getD k true with
      | false => rfl
      | true =>
        rcases hK i hil j hj k hk hkk with e | e
        · rw [e, hu] at hlk; cases hlk
        · have := waits_listed hm.shut f k i e hlk
          rw [hu] at this
          cases this))
    have hsame : ∀ d ∈ o.looksAt l.toArray, t[d]? = ((Bs.getD i []).foldl (fun t j => t.setIfInBounds (D.getD j 0) (x j)) t0)[d]? := by
      intro d hd
      by_cases hx : ∃ j, j < l.length ∧ D.getD j 0 = d ∧ j ∈ Bs.getD i []
      · obtain ⟨j, hj, rfl, hjb⟩ := hx
        by_cases hin : D.getD j 0 < t0.size
        · rw [(hm.here j hj (hbk' j (hbf j hjb)).2).1 hin, fold_at x _ _ hjb (fun k hk e => hapart k j (hbk' k (hbf k hk)).1 hj e) hin]
        · have hin' : t0.size ≤ D.getD j 0 := Nat.le_of_not_lt hin
          have e1 : ((Bs.getD i []).foldl (fun t j => t.setIfInBounds (D.getD j 0) (x j)) t0).size ≤ D.getD j 0 := by rw [fold_size]; omega
          have e2 : t.size ≤ D.getD j 0 := by rw [hm.tsize]; omega
          rw [Array.getElem?_eq_none e1, Array.getElem?_eq_none e2]
      · rw [fold_other x _ _ (fun j hj e => hx ⟨j, (hbk' j (hbf j hj)).1, e, hj⟩)]
        refine hm.other d fun j hj hjl e => ?_
        obtain ⟨oj, hoj⟩ : ∃ o, l[j]? = some o := ⟨_, List.getElem?_eq_getElem hj⟩
        rcases hlook d hd j oj hoj e with h | h
        · exact hx ⟨j, hj, e, h⟩
        · have := hm.shut j oj hoj hjl i h
          rw [hu] at this
          cases this
    have hnext : ∀ v w', Gs i w w' → F i v w' → wpAny P .any l.toArray Q fuel (listed.setIfInBounds i true) ⟨t.setIfInBounds (D.getD i 0) v, ds⟩ w' := by
      intro v w' hg hf
      refine ih (fun j => if j = i then v else x j) _ _ _ ⟨by simp [hm.size], by simp [hm.tsize], fun j hj hl => ?_, fun j hj hl => ?_, ?_, fun d hd => ?_, fun j oj hoj hl k hk => ?_⟩ (by have := count_set his hu; omega)
      · rw [getD_set his] at hl
        by_cases hji : i = j
        · subst hji
          refine ⟨fun hlt => ?_, fun _ => by rw [if_pos rfl]; exact hf⟩
          rw [Array.getElem?_setIfInBounds_self, if_pos (by rw [hm.tsize]; exact hlt), if_pos rfl]
        · rw [if_neg hji] at hl
          obtain ⟨h2, h3⟩ := hm.here j hj hl
          rw [Array.getElem?_setIfInBounds_ne (fun e => hji (hapart i j hil hj e)), if_neg (fun e => hji e.symm)]
          refine ⟨h2, fun hp => hF j i _ _ _ hj hil hji ?_ ?_ (h3 (fun k hk hkk => ?_)) hg⟩
          rotate_left
          · cases hki : kills KL i j with
            | false => rfl
            | true =>
              have := hp i hil hki
              rw [getD_set his, if_pos rfl] at this
              cases this
          · have := hp k hk hkk
            rw [getD_set his] at this
            by_cases hik : i = k
            · rw [if_pos hik] at this; cases this
            · rwa [if_neg hik] at this
          cases hw : waits l f j i with
          | false => rfl
          | true =>
            have := waits_listed hm.shut f j i hw hl
            rw [hu] at this
            cases this
      · rw [getD_set his] at hl
        by_cases hji : i = j
        · rw [if_pos hji] at hl; cases hl
        · rw [if_neg hji] at hl
          refine hI j i _ _ (by omega) hil hji ?_ (hm.wait j hj hl) hg
          cases hw : waits l f i j with
          | false => rfl
          | true =>
            exfalso
            have hset : ∀ q p, l[q]? = some p → (listed.setIfInBounds i true).getD q true = true → ∀ k ∈ beforeOf p, (listed.setIfInBounds i true).getD k true = true := by
              intro q p hq hlq k hk
              rw [getD_set his] at hlq ⊢
              by_cases hki : i = k
              · rw [if_pos hki]
              · rw [if_neg hki]
                by_cases hqi : i = q
                · subst hqi
                  obtain rfl : o = p := by rw [hoi] at hq; exact Option.some.inj hq
                  exact (hbk' k hk).2
                · rw [if_neg hqi] at hlq
                  exact hm.shut q p hq hlq k hk
            have := waits_listed hset f i j hw (by rw [getD_set his, if_pos rfl])
            rw [getD_set his, if_neg hji, hl] at this
            cases this
      · refine hI l.length i _ _ (Nat.le_refl _) hil (by omega) ?_ hm.fin hg
        cases hw : waits l f i l.length with
        | false => rfl
        | true =>
          exfalso
          have : ∀ (f q : Nat), waits l f q l.length = true → False := by
            intro f
            induction f with
            | zero => intro q h; simp [waits] at h
            | succ f ihf =>
              intro q h
              unfold waits at h
              split at h
              · cases h
              · rename_i p hp
                obtain ⟨k, hk, hk2⟩ := List.any_eq_true.1 h
                rw [Bool.or_eq_true] at hk2
                rcases hk2 with e | e
                · have := (hslot q p hp).2.2.1 k hk
                  have hq : q < l.length := (List.getElem?_eq_some_iff.1 hp).1
                  rw [beq_iff_eq.1 e] at this
                  omega
                · exact ihf k e
          exact this f i hw
      · have hdi : D.getD i 0 ≠ d := hd i hil (by rw [getD_set his, if_pos rfl])
        rw [Array.getElem?_setIfInBounds_ne hdi]
        exact hm.other d fun j hj hl => hd j hj (by rw [getD_set his]; split <;> simp [hl])
      · rw [getD_set his] at hl ⊢
        by_cases hki : i = k
        · rw [if_pos hki]
        · rw [if_neg hki]
          by_cases hji : i = j
          · subst hji
            obtain rfl : o = oj := by rw [hoi] at hoj; exact Option.some.inj hoj
            exact (hbk' k hk).2
          · rw [if_neg hji] at hl
            exact hm.shut j oj hoj hl k hk
    have hw := wanted_same (o := o) hsame
    unfold wpOp
    rw [show l.toArray[i]? = some o by simpa using hoi]
    show if Region.wanted o (yielded l.toArray t) = true then _ else _
    rw [hw]
    split
    · rename_i hwt
      replace h1 := h1.1 hwt
      refine .inl ?_
      exact wp_same2 (R := fun v w' => Gs i w w' ∧ F i v w') (by rw [fold_size, hm.tsize]) (by rw [fold_size]; exact hdst) (exec_same hsel hsame) h1 (fun v w' hr => hnext v w' hr.1 hr.2)
    · rename_i hwt
      replace h1 := h1.2 (by simpa using hwt)
      have hn := hnext undef w h1.1 h1.2
      rcases hdst with ⟨hd1, _⟩ | ⟨hd1, hd2⟩
      · rw [hd1]; exact hn
      · rw [hd1]
        have e2 : t.setIfInBounds (D.getD i 0) undef = t := Array.setIfInBounds_eq_of_size_le (by rw [hm.tsize]; exact hd2)
        rw [e2] at hn
        exact hn
def AllBear3 (KL : List (Nat × Nat)) (l : List Oper) (f : Nat) (s : Nat) (G : World → World → Prop) : List (Value → World → Prop) → Nat → Prop
  | [], _ => True
  | p :: r, i => (Stays G p ∨ waits l f i s = true ∨ i = s ∨ kills KL s i = true) ∧ AllBear3 KL l f s G r (i + 1)
def BearAll3 (KL : List (Nat × Nat)) (l : List Oper) (f : Nat) (L : List (Value → World → Prop)) : List (Nat × (World → World → Prop)) → Prop
  | [] => True
  | (s, G) :: r => AllBear3 KL l f s G L 0 ∧ BearAll3 KL l f L r
theorem AllBear3.get {KL : List (Nat × Nat)} {f s : Nat} {G : World → World → Prop} : ∀ {L : List (Value → World → Prop)} {k : Nat}, AllBear3 KL l f s G L k → ∀ i v w w', s ≠ k + i → waits l f (k + i) s = false → kills KL s (k + i) = false → pickF L i v w → G w w' → pickF L i v w'
  | [], _, _, _, _, _, _, _, _, _, _, _ => by simp [pickF]
  | p :: r, k, h, 0, v, w, w', hs, hw, hkl, hp, hg => by
    rcases h.1 with h1 | h1 | h1 | h1
    · exact h1 v w w' hp hg
    · rw [Nat.add_zero] at hw; rw [hw] at h1; cases h1
    · exact absurd h1.symm hs
    · rw [Nat.add_zero] at hkl; rw [hkl] at h1; cases h1
  | p :: r, k, h, i + 1, v, w, w', hs, hw, hkl, hp, hg =>
    AllBear3.get (L := r) (k := k + 1) h.2 i v w w' (by omega) (by rw [show k + 1 + i = k + (i + 1) by omega]; exact hw) (by rw [show k + 1 + i = k + (i + 1) by omega]; exact hkl) hp hg
theorem bear3_get {KL : List (Nat × Nat)} {f : Nat} {L : List (Value → World → Prop)} (hk : AllStay Kept L) : ∀ {S : List (Nat × (World → World → Prop))}, BearAll3 KL l f L S → ∀ i j v w w', j ≠ i → waits l f i j = false → kills KL j i = false → pickF L i v w → pickG S j w w' → pickF L i v w'
  | [], _, i, _, v, w, w', _, _, _, hp, hg => pick_stays hk i v w w' hp hg
  | (s, G) :: r, h, i, j, v, w, w', hne, hw, hkl, hp, hg => by
    unfold pickG at hg
    by_cases e : j = s
    · rw [if_pos e] at hg
      subst e
      exact AllBear3.get h.1 i v w w' (by rw [Nat.zero_add]; exact hne) (by rw [Nat.zero_add]; exact hw) (by rw [Nat.zero_add]; exact hkl) hp hg
    · rw [if_neg e] at hg
      exact bear3_get hk (S := r) h.2 i j v w w' hne hw hkl hp hg
theorem reg_kill {Q : Exit → Act → World → Prop} {id : Nat} {w : World} (KL : List (Nat × Nat)) (L : List (Value → World → Prop)) (S : List (Nat × (World → World → Prop))) (IL : List (Nat × (World → Prop))) (D : List Tmp) (Bs : List (List Nat)) (Ns : List Nat) (f : Nat) (hm : P.follows .mixedOrders = true)
    (hkok : killOk l f KL Bs = true) (hLk : AllStay Kept L) (hLS : BearAll3 KL l f L S) (hIk : AllKeepI IL) (hIS : BearAllI l f IL S) (h0 : HoldI w.drew IL)
    (m : Nat) (hsz : t0.size = m) (hok : slotsOk2 l D Bs m = true) (hap : slotsApart D l.length = true) (hB : Bs.length = l.length) (hN : List.range l.length = Ns) (n : Nat) (hn : l.length = n) (ho : Obls2 P (pickG S) (pickI IL) (pickF L) D ds l t0 l 0 Bs)
    (hQ : ∀ w', pickI IL n w' → Given (fun i v w => killed KL i = false → pickF L i v w) D w' t0 Ns fun t => Q .normal ⟨t, ds⟩ w') : (Code.region id l.toArray true).wp P Q ⟨t0, ds⟩ w := by
  subst hsz
  subst hN
  subst hn
  refine wp_region_any hm (reg_mid3 KL f (fun i j v w w' _ _ hne hw hkl hp hg => bear3_get hLk hLS i j v w w' hne hw hkl hp hg) (killOk_get hkok) (fun i j w w' _ _ hne hw hp hg => bearI_get hIk hIS i j w w' hne hw hp hg) hok hap hB ho hQ _ (fun _ => undef) _ _ _ ⟨by simp, rfl, fun j hj hl => ?_, fun j hj _ => hold_get h0 j, hold_get h0 _, fun d _ => rfl, fun j oj hoj hl => ?_⟩ (by simp))
  · simp [Array.getD, hj] at hl
  · simp [Array.getD, (List.getElem?_eq_some_iff.1 hoj).1] at hl
end
end Go.Proofs.Ytlhpdkapddnbcaa
