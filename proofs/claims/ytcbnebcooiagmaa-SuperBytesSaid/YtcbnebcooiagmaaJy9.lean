/- Joined: Contracts of ints.Get and of the reference's. Bytes as a value and as a string: words for regions that draw their order. The contracts of crc.Seal and crc.Open. Superblocks as bytes, and back: plain laws. No program in sight. An argument that is a super.Block, by value: a struct of structs. No walk in sight. append(s, make([]T, n)...) on rows of numbers that the call owns. No program in sight. Regions that draw their order: an operation's value may be used up by another one (the variable that a chain of calls hands on). No program in sight. The contract of codec's Writer's Bytes. The contract of codec's Writer's List. The reference's writers of records: Int, Bytes, List. -/
import Derived.Test.YtcbnebcooiagmaaProg
import Derived.Test.YtcbnebcooiagmaaJy1
import Derived.ProofKit
import Derived.Test.YtcbnebcooiagmaaJy3
import Derived.Test.YtcbnebcooiagmaaJy8
import Derived.WalkKit
import Derived.OpenShut
import Derived.Lib.AppendZerosOnto
import Derived.Test.YtcbnebcooiagmaaJy4
import Derived.Lib.Hide
import Derived.Test.YtcbnebcooiagmaaJy6
namespace Go.Proofs.Ytcbnebcooiagmaa
open Go.RowKit

def getOk (n : Nat) (m : Int) : Bool := decide (0 ≤ m ∧ m ≤ 8 ∧ m ≤ n)
def getV (l : List Int) (n : Nat) (m : Int) : Int := if getOk n m then getK l m.toNat else 0
theorem getV_no {l : List Int} {n : Nat} {m : Int} (h : getOk n m = false) : getV l n m = 0 := by unfold getV; simp [h]
theorem getV_yes {l : List Int} {n : Nat} {m : Nat} (h : getOk n m = true) : getV l n m = getK l m := by unfold getV; simp [h]

set_option maxRecDepth 100000 in
theorem get_any (a : Option Addr) (n c : Nat) (l : List Int) (m : Int) (w : World) (h : RdAt .u8 w a n c l) :
    Calls Try.prog 48 #[.slice a n c, .int .i64 m] w fun e w' => e = .returned (.tuple #[.int .u64 (getV l n m), .bool (getOk n m)]) ∧ w = w' := by
  have hmax := h.max
  have hcap := h.cap
  unfold maxLen at hmax
  by_cases hok : getOk n m = true
  · have q : 0 ≤ m ∧ m ≤ 8 ∧ m ≤ n := by unfold getOk at hok; simpa using hok
    obtain ⟨q1, q2, q4⟩ := q
    obtain ⟨m, rfl⟩ := Int.eq_ofNat_of_zero_le q1
    rw [hok, getV_yes hok]
    clear hok
    go_enter Try.func48, Try.ntmps48
    go_wp2
    go_loop [6, 21] (fun x i => ∃ k : Nat, k ≤ m ∧ i = .int .i64 k ∧ x = .int .u64 (getK l k)) (fun _ i => m - (intOf i).toNat)
    case atStart => exact ⟨0, by omega, rfl, rfl⟩
    case round =>
      obtain ⟨k, hk, rfl, rfl⟩ := hrel
      by_cases hp : k < m
      · obtain ⟨b, o, rfl, hc⟩ := h.cell k (by omega)
        have hb := h.byte k (by omega)
        have hb1 := hb.1
        have hb2 := hb.2
        clear hb
        go_wp2
        go_round
        case rel => exact ⟨k + 1, by omega, by go_num, by rw [get_go l k (by omega) (fun i hi => h.byte i (by omega))]⟩
        case measure => simp [intOf] <;> omega
      · obtain rfl : k = m := by omega
        go_wp2
        go_ret2
        exact ⟨rfl, rfl⟩
  · have hok' : getOk n m = false := by simpa using hok
    rw [hok', getV_no hok']
    have q : ¬ (0 ≤ m ∧ m ≤ 8 ∧ m ≤ n) := by unfold getOk at hok; simpa using hok
    clear hok hok'
    by_cases c1 : m < 0
    · go_enter Try.func48, Try.ntmps48
      go_wp2
      go_ret2
      exact ⟨rfl, rfl⟩
    by_cases c2 : 8 < m
    · go_enter Try.func48, Try.ntmps48
      go_wp2
      go_ret2
      exact ⟨rfl, rfl⟩
    have c4 : n < m := by omega
    clear q
    go_enter Try.func48, Try.ntmps48
    go_wp2
    go_ret2
    exact ⟨rfl, rfl⟩

end Go.Proofs.Ytcbnebcooiagmaa
namespace Go.Proofs.Ytcbnebcooiagmaa
open Go.RowKit
set_option maxRecDepth 100000 in
theorem s8 : Try.prog.underlying 5 = some (.int .u8) := Try.underlying5
set_option maxRecDepth 100000 in
theorem su : Try.prog.underlying 9 = some .string := Try.underlying9
theorem str_inj {a b : List Int} (ha : Bytes a) (hb : Bytes b) (h : (strOfNums a).toList = (strOfNums b).toList) : a = b := by
  rw [ByteArray.toList_eq, ByteArray.toList_eq, strOfNums_data, strOfNums_data] at h
  have hl : a.length = b.length := by simpa using congrArg List.length h
  apply List.ext_getElem hl
  intro i h1 h2
  have e := congrArg (fun l => l[i]?) h
  simp only [List.getElem?_map, List.getElem?_eq_getElem h1, List.getElem?_eq_getElem h2, Option.map_some, Option.some.injEq] at e
  obtain ⟨a1, a2⟩ := ha _ (List.getElem_mem h1)
  obtain ⟨b1, b2⟩ := hb _ (List.getElem_mem h2)
  have e2 := congrArg UInt8.toNat e
  simp only [UInt8.toNat_ofNat'] at e2
  omega
theorem RdAt.keptD {k : IntKind} {w w' : World} {a : Option Addr} {n c : Nat} {l : List Int} (h : RdAt k w a n c l) (hk : Kept w.drew w') : RdAt k w' a n c l :=
  RdAt.below (w := w.drew) ⟨h.len, h.cap, h.max, h.cell, h.wf, h.void⟩ hk
/-- A slice that reads as these bytes. -/
def isBytes (l : List Int) (v : Value) (w : World) : Prop := ∃ a n c, v = .slice a n c ∧ RdAt .u8 w a n c l
theorem isBytes_stays (l : List Int) : Stays Kept (isBytes l) := by
  rintro v w w' ⟨a, n, c, rfl, h⟩ hk
  exact ⟨a, n, c, rfl, h.below hk⟩
theorem Owns.isBytes {e : TypeId} {w : World} {base : Nat} {v : Value} {l : List Int} (h : Owns .u8 e w base v l) : isBytes l v w := by
  obtain ⟨a, c, rfl⟩ := h.shape
  exact ⟨_, _, _, rfl, h.rd⟩
theorem RdAt.isBytes {w : World} {a : Option Addr} {n c : Nat} {l : List Int} (h : RdAt .u8 w a n c l) : isBytes l (.slice a n c) w := ⟨_, _, _, rfl, h⟩
end Go.Proofs.Ytcbnebcooiagmaa
namespace Go.Proofs.Ytcbnebcooiagmaa
open Go.RowKit
theorem below_boxed {w w2 : World} {o : Obj} (h : Below (w.alloc o).heap.size (w.alloc o) w2) : Below w.heap.size w w2 := ((Below.refl w.heap.size w).alloc (Nat.le_refl _) o).trans (h.mono (by simp))
theorem Owns.lower {k : IntKind} {e : TypeId} {w w1 : World} {base : Nat} {v : Value} {l : List Int} (h : Owns k e w1 base v l) (hb : w.heap.size ≤ base) : Owns k e w1 w.heap.size v l := h.mono hb
set_option maxRecDepth 100000 in
set_option maxHeartbeats 400000 in
theorem seal_any (a : Option Addr) (n c : Nat) (l : List Int) (w : World) (h : RdAt .u8 w a n c l) (hn : n ≤ 1000000000) :
    Calls Try.prog 40 #[.slice a n c] w (GivesBytes (sealL l) w) := by
  have hbd := u32_bd (sumB l)
  have hbd1 := hbd.1
  have hbd2 := hbd.2
  clear hbd
  go_enter Try.func40, Try.ntmps40
  go_wp2_with fail
  refine (sum_one _ _ l _ (PartsAt.one h _)).mono ?_
  rintro e w1 ⟨rfl, hb⟩
  replace hb := below_boxed hb
  have hr := h.below hb
  go_wp2_with fail
  refine (put_any _ _ _ l _ _ _ hr hn (by omega) (by omega) (by omega) (by omega)).mono ?_
  rintro e w2 ⟨r, rfl, ho, hb2⟩
  go_wp2
  go_ret
  exact ⟨_, rfl, ho.mono hb.size, hb.trans (hb2.mono hb.size)⟩
theorem RdAt.drop {w : World} {b o n c : Nat} {l : List Int} {kd : IntKind} (h : RdAt kd w (some ⟨b, o, none⟩) n c l) (k : Nat) (hk : k ≤ n) : RdAt kd w (some ⟨b, o + k, none⟩) (n - k) (c - k) (l.drop k) :=
  ⟨by rw [List.length_drop, h.len], by have := h.cap; omega, by have := h.max; omega, fun i hi => by
    obtain ⟨b', o', e, hc⟩ := h.cell (k + i) (by omega)
    injection e with e
    injection e with e1 e2
    subst e1 e2
    refine ⟨_, _, rfl, ?_⟩
    rw [Nat.add_assoc, hc]; congr 1
    have hl := h.len
    rw [nth_eq (by omega), nth_eq (by rw [List.length_drop]; omega), List.getElem_drop], fun x hx => h.wf x (List.mem_of_mem_drop hx), fun h => by cases h⟩
def openL (l : List Int) : List Int := if openOk l = true then l.take (l.length - 4) else []
def openE (l : List Int) : Int := if l.length < 4 then 21 else if openOk l = true then 0 else 23
def GivesOpen (l : List Int) (w : World) (e : Ending) (w' : World) : Prop := ∃ v, e = .returned (.tuple #[v, .int .i64 (openE l)]) ∧ Owns .u8 5 w' w.heap.size v (openL l) ∧ Below w.heap.size w w'
set_option maxRecDepth 100000 in
set_option maxHeartbeats 400000 in
theorem open_short (a : Option Addr) (n c : Nat) (l : List Int) (w : World) (h : RdAt .u8 w a n c l) (hn : n < 4) :
    Calls Try.prog 47 #[.slice a n c] w (GivesOpen l w) := by
  have e1 : openE l = 21 := by unfold openE; rw [if_pos (by rw [h.len]; exact hn)]
  have e2 : openL l = [] := by unfold openL openOk; rw [decide_eq_false (by rw [h.len]; omega)]; rfl
  have E1 := Lib.hid e1
  have E2 := Lib.hid e2
  clear e1 e2
  go_enter Try.func47, Try.ntmps47
  go_wp2
  go_ret2
  exact ⟨.slice none 0 0, by rw [E1.out]; rfl, by rw [E2.out]; exact Owns.nil _ _ _ _, Below.refl _ _⟩
set_option maxRecDepth 100000 in
theorem get4f (l : List Int) (w : World) (a : Option Addr) (c : Nat) (h : RdAt .u8 w a 4 c l) :
    Calls Try.prog 48 #[.slice a 4 c, .int .i64 4] w fun e w' => e = .returned (.tuple #[.int .u64 (getK l 4), .bool true]) ∧ w = w' := get_any a 4 c l 4 w h
set_option maxRecDepth 100000 in
theorem get4 (l : List Int) (w : World) (a : Option Addr) (c : Nat) (h : RdAt .u8 w a 4 c l) :
    Calls Try.prog 48 #[.slice a 4 c, .int .i64 4] w fun e w' => e = .returned (.tuple #[.int .u64 (getK l 4), .bool true]) ∧ w = w' := get_any a 4 c l 4 w h
set_option maxRecDepth 100000 in
set_option maxHeartbeats 400000 in
theorem open_long (b o m c : Nat) (l : List Int) (w : World) (h : RdAt .u8 w (some ⟨b, o, none⟩) (m + 4) c l) (hn : m ≤ 1000000) :
    Calls Try.prog 47 #[.slice (some ⟨b, o, none⟩) (m + 4 : Nat) c] w (GivesOpen l w) := by
  have hcap := h.cap
  have hmax := h.max
  unfold maxLen at hmax
  have hd : RdAt .u8 w (some ⟨b, o + m, none⟩) 4 (c - m) (l.drop m) := by have := h.drop m (by omega); rwa [Nat.add_sub_cancel_left] at this
  have ht := (RdAt.take h m (by omega))
  have hbs := hd.bytes
  have hG := getK_bd (l.drop m) 4 (fun i _ => hbs.at i)
  have HG := Lib.hid (get4 _ w _ _ hd)
  have hG1 := hG.1
  have hG2 : getK (l.drop m) 4 ≤ 4294967295 := by have := hG.2; omega
  clear hG
  have hl := h.len
  have hm : l.length - 4 = m := by omega
  have hdec1 : decide ((m : Int) + 4 < 4) = false := decide_eq_false (by omega)
  by_cases heq : getK (l.drop m) 4 = rnum (sumB (l.take m))
  · have e0 : openOk l = true := by unfold openOk; rw [hm, decide_eq_true heq, decide_eq_true (by omega : 4 ≤ l.length)]; rfl
    have E1 : Hid (openE l = 0) := by show _ = _; unfold openE; rw [if_neg (by omega), if_pos e0]
    have E2 : Hid (openL l = l.take m) := by show _ = _; unfold openL; rw [if_pos e0, hm]
    have hne : (getK (l.drop m) 4 != rnum (sumB (l.take m))) = false := by rw [heq]; simp
    have HE := Lib.hid heq
    clear e0 heq hl hm
    generalize getK (l.drop m) 4 = G at *
    go_enter Try.func47, Try.ntmps47
    go_wp2_with fail
    refine HG.out.mono ?_
    rintro e w' ⟨rfl, rfl⟩
    go_wp2_with fail
    refine (sum_one _ _ (l.take m) _ (PartsAt.one ht _)).mono ?_
    rintro e w1 ⟨rfl, hb⟩
    replace hb := below_boxed hb
    have ht1 := ht.below hb
    go_wp2_with fail
    refine (clone_any _ _ _ _ _ ht1 (by omega)).mono ?_
    rintro e w2 ⟨v, rfl, ho, hb2⟩
    go_wp2_with fail
    go_ret2
    exact ⟨v, by rw [E1.out]; rfl, by rw [E2.out]; exact ho.mono hb.size, hb.trans (hb2.mono hb.size)⟩
  · have e0 : openOk l = false := by unfold openOk; rw [hm, decide_eq_false heq, Bool.and_false]
    have E1 : Hid (openE l = 23) := by show _ = _; unfold openE; rw [if_neg (by omega), e0]; rfl
    have E2 : Hid (openL l = []) := by show _ = _; unfold openL; rw [e0]; rfl
    have hne : (getK (l.drop m) 4 != rnum (sumB (l.take m))) = true := by simpa using heq
    clear e0 heq hl hm
    generalize getK (l.drop m) 4 = G at *
    go_enter Try.func47, Try.ntmps47
    go_wp2_with fail
    refine HG.out.mono ?_
    rintro e w' ⟨rfl, rfl⟩
    go_wp2_with fail
    refine (sum_one _ _ (l.take m) _ (PartsAt.one ht _)).mono ?_
    rintro e w1 ⟨rfl, hb⟩
    replace hb := below_boxed hb
    go_wp2_with fail
    go_ret2
    exact ⟨.slice none 0 0, by rw [E1.out]; rfl, by rw [E2.out]; exact Owns.nil _ _ _ _, hb⟩
set_option maxRecDepth 100000 in
theorem open_any (a : Option Addr) (n c : Nat) (l : List Int) (w : World) (h : RdAt .u8 w a n c l) (hn : n ≤ 1000000) :
    Calls Try.prog 47 #[.slice a n c] w (GivesOpen l w) := by
  by_cases hs : n < 4
  · exact open_short a n c l w h hs
  · obtain ⟨m, rfl⟩ : ∃ m, n = m + 4 := ⟨n - 4, by omega⟩
    obtain ⟨b, o, rfl, _⟩ := h.cell 0 (by omega)
    exact open_long b o m c l w h (by omega)
end Go.Proofs.Ytcbnebcooiagmaa
namespace Go.Proofs.Ytcbnebcooiagmaa
open Go.RowKit
structure Blk where
  ep : Int
  c0 : Int
  c1 : Int
  c2 : Int
  c3 : Int
  c4 : Int
  c5 : Int
  c6 : Int
  c7 : Int
  c8 : Int
  rs : Int
  rn : Int
  sq : Int
def Blk.val (b : Blk) : Value := .agg #[.int .u64 b.ep, .int .i64 b.c0, .int .i64 b.c1, .int .i64 b.c2, .int .i64 b.c3, .int .i64 b.c4, .int .i64 b.c5, .int .i64 b.c6, .int .i64 b.c7, .int .i64 b.c8, .int .i64 b.rs, .int .i64 b.rn, .int .u64 b.sq]
def blk0 : Blk := ⟨0, 0, 0, 0, 0, 0, 0, 0, 0, 0, 0, 0, 0⟩
structure Blk.Wf (b : Blk) : Prop where
  ep : 0 ≤ b.ep ∧ b.ep ≤ 18446744073709551615
  w0 : (Lit.int .i64 b.c0).wf = true
  w1 : (Lit.int .i64 b.c1).wf = true
  w2 : (Lit.int .i64 b.c2).wf = true
  w3 : (Lit.int .i64 b.c3).wf = true
  w4 : (Lit.int .i64 b.c4).wf = true
  w5 : (Lit.int .i64 b.c5).wf = true
  w6 : (Lit.int .i64 b.c6).wf = true
  w7 : (Lit.int .i64 b.c7).wf = true
  w8 : (Lit.int .i64 b.c8).wf = true
  rs : -9223372036854775808 ≤ b.rs ∧ b.rs ≤ 9223372036854775807
  rn : -9223372036854775808 ≤ b.rn ∧ b.rn ≤ 9223372036854775807
  sq : 0 ≤ b.sq ∧ b.sq ≤ 18446744073709551615
def Blk.cfg (b : Blk) : List Int := [b.c0, b.c1, b.c2, b.c3, b.c4, b.c5, b.c6, b.c7, b.c8]
def Blk.chk (b : Blk) : Bool := chkB b.c0 b.c1 b.c2 b.c3 b.c4 b.c5 b.c6 b.c7 b.c8
def magicL : List Int := [65, 76, 77, 65, 78, 65, 67, 49]
def supHead (b : Blk) : List Int := magicL ++ putL b.ep 8 ++ putL b.sq 8
def supBody (b : Blk) : List Int := varF 9 (zigI (encL b.cfg).length) ++ encL b.cfg ++ varF 9 (zigI b.rs) ++ varF 9 (zigI b.rn)
def supOut (b : Blk) : List Int := supHead b ++ supBody b
def supArg (b : Blk) : Bool := b.chk && decide (0 ≤ b.rs) && decide (0 ≤ b.rn)
def supE (b : Blk) : Int := if supArg b = false then 1 else if b.c1 - 4 < (supOut b).length then 24 else 0
def supZ (b : Blk) : List Int := supOut b ++ List.replicate (b.c1 - 4 - (supOut b).length).toNat 0
def supV (b : Blk) : List Int := if supE b = 0 then sealL (supZ b) else []
theorem chk_bd {b : Blk} (h : b.chk = true) : (1 ≤ b.c0 ∧ b.c0 ≤ 65536) ∧ (64 ≤ b.c1 ∧ b.c1 ≤ 4096) := by
  unfold Blk.chk chkB plainG at h
  simp only [Bool.and_eq_true] at h
  obtain ⟨⟨⟨⟨⟨⟨⟨⟨⟨h0, h1⟩, _⟩, _⟩, _⟩, _⟩, _⟩, _⟩, _⟩, _⟩ := h
  exact ⟨btw_true h0, btw_true h1⟩
theorem wf_small {x lo hi : Int} (h : btw x lo hi = true) (h1 : -1000000 ≤ lo) (h2 : hi ≤ 1000000) : (Lit.int .i64 x).wf = true := by
  obtain ⟨a, b⟩ := btw_true h
  exact WalkArith.wf_i64 ⟨by omega, by omega⟩
theorem encL_cfg (b : Blk) : (encL b.cfg).length ≤ 90 := encL_len b.cfg
theorem supHead_len (b : Blk) : (supHead b).length = 24 := by
  unfold supHead
  rw [List.length_append, List.length_append, putL_len, putL_len]
  rfl
theorem supOut_len (b : Blk) : (supOut b).length ≤ 150 := by
  unfold supOut supBody
  have h1 := encL_cfg b
  have h2 := (varF_len 9 (zigI (encL b.cfg).length)).2
  have h3 := (varF_len 9 (zigI b.rs)).2
  have h4 := (varF_len 9 (zigI b.rn)).2
  have h5 := supHead_len b
  simp only [List.length_append]
  omega
theorem supE_ok {b : Blk} (h : supE b = 0) : supArg b = true ∧ b.chk = true ∧ 0 ≤ b.rs ∧ 0 ≤ b.rn ∧ ((supOut b).length : Int) ≤ b.c1 - 4 := by
  unfold supE at h
  split at h
  · cases h
  · rename_i h1
    split at h
    · cases h
    · rename_i h2
      have h3 : supArg b = true := by simpa using h1
      have h4 := h3
      unfold supArg at h4
      simp only [Bool.and_eq_true, decide_eq_true_eq] at h4
      exact ⟨h3, h4.1.1, h4.1.2, h4.2, by omega⟩
theorem supZ_len {b : Blk} (h : supE b = 0) : (supZ b).length = (b.c1 - 4).toNat := by
  have := (supE_ok h).2.2.2.2
  unfold supZ
  rw [List.length_append, List.length_replicate]
  omega
theorem supV_len {b : Blk} (h : supE b = 0) : ((supV b).length : Int) = b.c1 ∧ 64 ≤ (supV b).length ∧ (supV b).length ≤ 4096 := by
  have h1 := (chk_bd (supE_ok h).2.1).2
  unfold supV
  rw [if_pos h, seal_len, supZ_len h]
  omega
theorem supV_nil {b : Blk} (h : supE b ≠ 0) : supV b = [] := if_neg h
def front (s : List Int) : List Int := s.take (s.length - 4)
theorem front_sup {b : Blk} (h : supE b = 0) : front (supV b) = supZ b := by
  unfold front supV
  rw [if_pos h, seal_take]
theorem open_sup {b : Blk} (h : supE b = 0) : openOk (supV b) = true := by
  unfold supV
  rw [if_pos h]
  exact open_seal _
theorem getK_app (l r : List Int) : ∀ k, k ≤ l.length → getK (l ++ r) k = getK l k
  | 0, _ => rfl
  | k + 1, h => by rw [getK, getK, getK_app l r k (by omega), nth_app (by omega)]
theorem getK_put8 {v : Int} (h0 : 0 ≤ v) (h1 : v ≤ 18446744073709551615) (r : List Int) : getK (putL v 8 ++ r) 8 = v := by
  rw [getK_app _ _ 8 (by rw [putL_len]; exact Nat.le_refl _), getK_putL v 8 h0 8 (Nat.le_refl _)]
  exact Int.emod_eq_of_lt h0 (by show v < 2 ^ (8 * 8); have : (2 : Int) ^ (8 * 8) = 18446744073709551616 := by decide
                                 omega)
theorem rdBytes_var {bs : List Int} {most : Int} (hm : (bs.length : Int) ≤ most) (hn : bs.length ≤ 1000000) (more : List Int) : rdBytes most (varF 9 (zigI bs.length) ++ (bs ++ more)) = ⟨0, bs, more⟩ := by
  have hb : rdBetween 0 most (varF 9 (zigI bs.length) ++ (bs ++ more)) = ⟨0, bs.length, bs ++ more⟩ := by
    unfold rdBetween
    rw [rdInt_var (by omega) (by omega), if_neg (by simp), if_neg (by show ¬ ((bs.length : Int) < 0 ∨ most < bs.length); omega)]
  unfold rdBytes
  rw [hb, if_neg (by simp), if_neg (by show ¬ (((bs ++ more).length : Nat) : Int) < bs.length; rw [List.length_append]; omega)]
  show (⟨0, (bs ++ more).take (bs.length : Int).toNat, (bs ++ more).drop (bs.length : Int).toNat⟩ : Rd (List Int)) = _
  rw [Int.toNat_natCast, List.take_left, List.drop_left]
def dT (m : Int) (x : List Int) : Rd (List Int) := rdFrom 0 [] (x.drop 24) (rdBytes m (x.drop 24))
def dI1 (m : Int) (x : List Int) : Rd Int := rdFrom (dT m x).e 0 (dT m x).l (rdInt (dT m x).l)
def dI2 (m : Int) (x : List Int) : Rd Int := rdFrom (dI1 m x).e 0 (dI1 m x).l (rdInt (dI1 m x).l)
def dB (m : Int) (x : List Int) : Blk := ⟨getK (x.drop 8) 8, decV (dT m x).v 0, decV (dT m x).v 1, decV (dT m x).v 2, decV (dT m x).v 3, decV (dT m x).v 4, decV (dT m x).v 5, decV (dT m x).v 6, decV (dT m x).v 7, decV (dT m x).v 8, (dI1 m x).v, (dI2 m x).v, getK (x.drop 16) 8⟩
/-- The sector is this block's. -/
def sameB (b : Blk) (s : List Int) : Bool := decide (supE b = 0) && decide (supV b = s)
def supDE (s : List Int) : Int := if s.length < 64 ∨ openOk s = false then 23 else if decB (dT 256 (front s)).v = true ∧ sameB (dB 256 (front s)) s = true then 0 else 22
def supD (s : List Int) : Blk := if supDE s = 0 then dB 256 (front s) else blk0
def refDE (s : List Int) : Int := if s.length < 64 ∨ openOk s = false then 23 else if (front s).take 8 = magicL ∧ (dI2 (front s).length (front s)).e = 0 ∧ decB (dT (front s).length (front s)).v = true ∧ sameB (dB (front s).length (front s)) s = true then 0 else 22
def refD (s : List Int) : Blk := if refDE s = 0 then dB (front s).length (front s) else blk0
/-- What is read of a block's bytes. -/
theorem sup_back {b : Blk} (w : b.Wf) (h : supE b = 0) {m : Int} (hm : ((encL b.cfg).length : Int) ≤ m) : (supZ b).take 8 = magicL ∧ (dI2 m (supZ b)).e = 0 ∧ decB (dT m (supZ b)).v = true ∧ dB m (supZ b) = b := by
  obtain ⟨Z, hZ⟩ : ∃ Z, List.replicate (b.c1 - 4 - (supOut b).length).toNat (0 : Int) = Z := ⟨_, rfl⟩
  have e0 : supZ b = magicL ++ (putL b.ep 8 ++ (putL b.sq 8 ++ (supBody b ++ Z))) := by
    unfold supZ
    rw [hZ]
    unfold supOut supHead
    simp only [List.append_assoc]
  have e8 : (supZ b).drop 8 = putL b.ep 8 ++ (putL b.sq 8 ++ (supBody b ++ Z)) := by rw [e0]; rfl
  have e16 : (supZ b).drop 16 = putL b.sq 8 ++ (supBody b ++ Z) := by
    rw [show (16 : Nat) = 8 + 8 from rfl, ← List.drop_drop, e8]
    exact List.drop_left' (putL_len _ _)
  have e24 : (supZ b).drop 24 = supBody b ++ Z := by
    rw [show (24 : Nat) = 16 + 8 from rfl, ← List.drop_drop, e16]
    exact List.drop_left' (putL_len _ _)
  have eb : supBody b ++ Z = varF 9 (zigI (encL b.cfg).length) ++ (encL b.cfg ++ (varF 9 (zigI b.rs) ++ (varF 9 (zigI b.rn) ++ Z))) := by
    unfold supBody
    simp only [List.append_assoc]
  have hT : dT m (supZ b) = ⟨0, encL b.cfg, varF 9 (zigI b.rs) ++ (varF 9 (zigI b.rn) ++ Z)⟩ := by
    unfold dT
    rw [rdFrom_ok, e24, eb, rdBytes_var hm (by have := encL_cfg b; omega)]
  have hI1 : dI1 m (supZ b) = ⟨0, b.rs, varF 9 (zigI b.rn) ++ Z⟩ := by
    unfold dI1
    rw [hT, rdFrom_ok, rdInt_var w.rs.1 w.rs.2]
  have hI2 : dI2 m (supZ b) = ⟨0, b.rn, Z⟩ := by
    unfold dI2
    rw [hI1, rdFrom_ok, rdInt_var w.rn.1 w.rn.2]
  obtain ⟨hb, d0, d1, d2, d3, d4, d5, d6, d7, d8⟩ := dec_enc w.w0 w.w1 w.w2 w.w3 w.w4 w.w5 w.w6 w.w7 w.w8
  refine ⟨by rw [e0]; rfl, by rw [hI2], ?_, ?_⟩
  · rw [hT]
    show decB (encL [b.c0, b.c1, b.c2, b.c3, b.c4, b.c5, b.c6, b.c7, b.c8]) = true
    rw [hb]
    exact (supE_ok h).2.1
  · unfold dB
    rw [hI1, hI2, e8, e16, hT, getK_put8 w.ep.1 w.ep.2, getK_put8 w.sq.1 w.sq.2]
    show (⟨b.ep, decV (encL [b.c0, b.c1, b.c2, b.c3, b.c4, b.c5, b.c6, b.c7, b.c8]) 0, decV (encL [b.c0, b.c1, b.c2, b.c3, b.c4, b.c5, b.c6, b.c7, b.c8]) 1, decV (encL [b.c0, b.c1, b.c2, b.c3, b.c4, b.c5, b.c6, b.c7, b.c8]) 2, decV (encL [b.c0, b.c1, b.c2, b.c3, b.c4, b.c5, b.c6, b.c7, b.c8]) 3, decV (encL [b.c0, b.c1, b.c2, b.c3, b.c4, b.c5, b.c6, b.c7, b.c8]) 4, decV (encL [b.c0, b.c1, b.c2, b.c3, b.c4, b.c5, b.c6, b.c7, b.c8]) 5, decV (encL [b.c0, b.c1, b.c2, b.c3, b.c4, b.c5, b.c6, b.c7, b.c8]) 6, decV (encL [b.c0, b.c1, b.c2, b.c3, b.c4, b.c5, b.c6, b.c7, b.c8]) 7, decV (encL [b.c0, b.c1, b.c2, b.c3, b.c4, b.c5, b.c6, b.c7, b.c8]) 8, b.rs, b.rn, b.sq⟩ : Blk) = b
    rw [d0, d1, d2, d3, d4, d5, d6, d7, d8]
theorem sameB_yes {b : Blk} {s : List Int} (h : sameB b s = true) : supE b = 0 ∧ supV b = s := by
  unfold sameB at h
  simpa using h
theorem sameB_of {b : Blk} (h : supE b = 0) : sameB b (supV b) = true := by
  unfold sameB
  simp [h]
theorem sup_read {b : Blk} (w : b.Wf) (h : supE b = 0) : supDE (supV b) = 0 ∧ supD (supV b) = b := by
  obtain ⟨_, _, h3, h4⟩ := sup_back w h (m := 256) (by have := encL_cfg b; omega)
  have hl := supV_len h
  have e : supDE (supV b) = 0 := by
    unfold supDE
    rw [if_neg (by rw [open_sup h]; simp; omega), if_pos (by rw [front_sup h, h4]; exact ⟨h3, sameB_of h⟩)]
  exact ⟨e, by unfold supD; rw [if_pos e, front_sup h, h4]⟩
theorem enc_in {b : Blk} : ((encL b.cfg).length : Int) ≤ (supZ b).length := by
  unfold supZ supOut supBody
  simp only [List.length_append]
  omega
theorem ref_read {b : Blk} (w : b.Wf) (h : supE b = 0) : refDE (supV b) = 0 ∧ refD (supV b) = b := by
  obtain ⟨h1, h2, h3, h4⟩ := sup_back w h (m := (supZ b).length) enc_in
  have hl := supV_len h
  have e : refDE (supV b) = 0 := by
    unfold refDE
    rw [if_neg (by rw [open_sup h]; simp; omega), if_pos (by rw [front_sup h, h4]; exact ⟨h1, h2, h3, sameB_of h⟩)]
  exact ⟨e, by unfold refD; rw [if_pos e, front_sup h, h4]⟩
theorem wf_bytes {l : List Int} (h : Bytes l) : ∀ y ∈ l, (Lit.int .u8 y).wf = true := fun y hy => WalkArith.wf_u8 (h y hy)
theorem rdBytes_sub (most : Int) (l : List Int) : (∀ y ∈ (rdBytes most l).l, y ∈ l) := by
  have hb : ∀ y ∈ (rdBetween 0 most l).l, y ∈ l := by
    unfold rdBetween
    split
    · exact rdInt_sub l
    · split
      · exact rdInt_sub l
      · exact rdInt_sub l
  unfold rdBytes
  split
  · exact hb
  · split
    · exact hb
    · exact fun y hy => hb y (List.mem_of_mem_drop hy)
theorem from_bd {e : Int} {l l' : List Int} (h : Bytes l') : -9223372036854775808 ≤ (rdFrom e 0 l (rdInt l')).v ∧ (rdFrom e 0 l (rdInt l')).v ≤ 9223372036854775807 := by
  unfold rdFrom
  split
  · exact ⟨by show (-9223372036854775808 : Int) ≤ 0; omega, by show (0 : Int) ≤ 9223372036854775807; omega⟩
  · exact rdInt_bd (wf_bytes h)
theorem dB_wf {m : Int} {x : List Int} (hx : Bytes x) (h : decB (dT m x).v = true) : (dB m x).Wf := by
  have hT : Bytes (dT m x).l := fun y hy => by
    unfold dT at hy
    rw [rdFrom_ok] at hy
    exact hx y (List.mem_of_mem_drop (rdBytes_sub _ _ y hy))
  have hI : Bytes (dI1 m x).l := fun y hy => by
    unfold dI1 rdFrom at hy
    split at hy
    · exact hT y hy
    · exact hT y (rdInt_sub _ y hy)
  have hg : ∀ k, 0 ≤ getK (x.drop k) 8 ∧ getK (x.drop k) 8 ≤ 18446744073709551615 := fun k => by
    have h1 := getK_bd (x.drop k) 8 (fun i _ => Bytes.at (fun y hy => hx y (List.mem_of_mem_drop hy)) i)
    have h2 : (2 : Int) ^ (8 * 8) = 18446744073709551616 := by decide
    omega
  unfold decB at h
  rw [Bool.and_eq_true] at h
  have hc := h.2
  unfold chkB plainG at hc
  simp only [Bool.and_eq_true] at hc
  obtain ⟨⟨⟨⟨⟨⟨⟨⟨⟨k0, k1⟩, k4⟩, k2⟩, k3⟩, k5⟩, k6⟩, k7⟩, k8⟩, _⟩ := hc
  exact ⟨hg 8, wf_small k0 (by omega) (by omega), wf_small k1 (by omega) (by omega), wf_small k2 (by omega) (by omega), wf_small k3 (by omega) (by omega), wf_small k4 (by omega) (by omega), wf_small k5 (by omega) (by omega), wf_small k6 (by omega) (by omega), wf_small k7 (by omega) (by omega), wf_small k8 (by omega) (by omega), from_bd hT, from_bd hI, hg 16⟩
theorem front_bytes {s : List Int} (h : Bytes s) : Bytes (front s) := fun y hy => h y (List.mem_of_mem_take hy)
theorem supDE_vals (s : List Int) : supDE s = 0 ∨ supDE s = 22 ∨ supDE s = 23 := by
  unfold supDE
  split
  · exact .inr (.inr rfl)
  · split
    · exact .inl rfl
    · exact .inr (.inl rfl)
/-- What is read as a block is that block's sector. -/
theorem supD_yes {s : List Int} (hs : Bytes s) (h : supDE s = 0) : (supD s).Wf ∧ supE (supD s) = 0 ∧ supV (supD s) = s := by
  unfold supD
  rw [if_pos h]
  unfold supDE at h
  split at h
  · cases h
  · split at h
    · rename_i h2
      exact ⟨dB_wf (front_bytes hs) h2.1, sameB_yes h2.2⟩
    · cases h
theorem refD_yes {s : List Int} (hs : Bytes s) (h : refDE s = 0) : (refD s).Wf ∧ supE (refD s) = 0 ∧ supV (refD s) = s := by
  unfold refD
  rw [if_pos h]
  unfold refDE at h
  split at h
  · cases h
  · split at h
    · rename_i h2
      exact ⟨dB_wf (front_bytes hs) h2.2.2.1, sameB_yes h2.2.2.2⟩
    · cases h
/-- The program and the document read the same. -/
theorem sup_ref {s : List Int} (hs : Bytes s) : supDE s = refDE s ∧ supD s = refD s := by
  by_cases h1 : supDE s = 0
  · obtain ⟨w, e, v⟩ := supD_yes hs h1
    obtain ⟨r1, r2⟩ := ref_read w e
    rw [v] at r1 r2
    exact ⟨by rw [h1, r1], r2.symm⟩
  · by_cases h2 : refDE s = 0
    · obtain ⟨w, e, v⟩ := refD_yes hs h2
      obtain ⟨r1, _⟩ := sup_read w e
      rw [v] at r1
      exact absurd r1 h1
    · refine ⟨?_, by unfold supD refD; rw [if_neg h1, if_neg h2]⟩
      unfold supDE at h1 ⊢
      unfold refDE at h2 ⊢
      split
      · rfl
      · rename_i h3
        rw [if_neg h3] at h1 h2
        split at h1
        · exact absurd rfl h1
        · rename_i h4
          split at h2
          · exact absurd rfl h2
          · rename_i h5
            rw [if_neg h4, if_neg h5]
end Go.Proofs.Ytcbnebcooiagmaa
namespace Go.Proofs.Ytcbnebcooiagmaa
open Go.ChangeShapes Go.WideShapes Go.ChangeAt Go.RowKit
def fieldAt (P : Program) (fs : Array Field) (i off : Nat) (e : TypeId) (c : Nat) : Bool := match fs[i]? with | some f => f.offset == off && f.type == e && P.cellsOf f.type == c | none => false
theorem list_13 {α : Type} {l : List α} (h : l.length = 13) : ∃ c0 c1 c2 c3 c4 c5 c6 c7 c8 c9 c10 c11 c12, l = [c0, c1, c2, c3, c4, c5, c6, c7, c8, c9, c10, c11, c12] := by
  match l, h with
  | [c0, c1, c2, c3, c4, c5, c6, c7, c8, c9, c10, c11, c12], _ => exact ⟨_, _, _, _, _, _, _, _, _, _, _, _, _, rfl⟩
section
variable {H : Type} {enc : TypeId × Value → H} {P : Program} {w : World} {base : Nat} {spare : Nat → Bool} {held : Bool}
theorem fld {t e : TypeId} {fs : Array Field} {m i off c : Nat} {l : List Value} {x : DataW H × List MemPlace} (hs : P.underlying t = some (.struct fs)) (hf : DataW.trod enc P w base spare held m t l = some x) (hb : fieldAt P fs i off e c = true) :
    ∃ n y, DataW.trod enc P w base spare held n e ((l.drop off).take c) = some y := by
  obtain ⟨xs, n, _, _, _, hlen, hg⟩ := DataW.trod_struct hs hf
  unfold fieldAt at hb
  cases hfi : fs[i]? with
  | none => rw [hfi] at hb; cases hb
  | some f =>
    rw [hfi] at hb
    simp only [Bool.and_eq_true, beq_iff_eq] at hb
    obtain ⟨⟨o, te⟩, k1⟩ := hb
    have h1 := hg i f hfi
    have hi := (Array.getElem?_eq_some_iff.1 hfi).1
    rw [o, k1, te] at h1
    rw [List.getElem?_eq_getElem (show i < xs.length by omega)] at h1
    exact ⟨_, _, h1⟩
theorem fld_int {t e : TypeId} {fs : Array Field} {m i off : Nat} {l : List Value} {x : DataW H × List MemPlace} {k : IntKind} {v : Value} (hs : P.underlying t = some (.struct fs)) (hf : DataW.trod enc P w base spare held m t l = some x) (hb : fieldAt P fs i off e 1 = true) (he : P.underlying e = some (.int k)) (hl : (l.drop off).take 1 = [v]) :
    ∃ a : Int, v = .int k a ∧ (Lit.int k a).wf = true := by
  obtain ⟨n, y, h1⟩ := fld hs hf hb
  rw [hl] at h1
  obtain ⟨a, hca, _, hw⟩ := DataW.trod_int he h1
  exact ⟨a, by simpa using hca, hw⟩
theorem open_blk {r : Reach} {b0 : Nat} {t u e cT aT : TypeId} {fs gs hs' : Array Field} {v : Value} {d : DataW H} {p : List MemPlace}
    (hs : P.underlying t = some (.struct fs)) (hC : P.cellsOf t = 13) (hf : (fieldAt P fs 0 0 u 1 && fieldAt P fs 1 1 cT 9 && fieldAt P fs 2 10 aT 2 && fieldAt P fs 3 12 u 1) = true)
    (hu : P.underlying u = some (.int .u64)) (hc : P.underlying cT = some (.struct gs)) (hgs : ((List.range 9).all fun i => fieldAt P gs i i e 1) = true) (ha : P.underlying aT = some (.struct hs')) (has : (fieldAt P hs' 0 0 e 1 && fieldAt P hs' 1 1 e 1) = true)
    (he : P.underlying e = some (.int .i64)) (hv : Value.okWide P w r b0 t v) (h : DataW.Trod enc P w base spare held t v d p) : ∃ b : Blk, v = b.val ∧ b.Wf := by
  obtain ⟨cs, rfl, hsz⟩ := okWide_struct hs hv
  obtain ⟨l⟩ := cs
  obtain ⟨c0, c1, c2, c3, c4, c5, c6, c7, c8, c9, c10, c11, c12, rfl⟩ := list_13 (hsz.trans hC)
  obtain ⟨fuel, ht⟩ := h
  simp only [Bool.and_eq_true] at hf has
  obtain ⟨⟨⟨f0, f1⟩, f2⟩, f3⟩ := hf
  have hg := List.all_eq_true.1 hgs
  have hgi : ∀ i, i < 9 → fieldAt P gs i i e 1 = true := fun i hi => hg i (by simpa using hi)
  obtain ⟨x0, rfl, w0⟩ := fld_int hs ht f0 hu (v := c0) rfl
  obtain ⟨x12, rfl, w12⟩ := fld_int hs ht f3 hu (v := c12) rfl
  obtain ⟨n1, y1, h1⟩ := fld hs ht f1
  obtain ⟨n2, y2, h2⟩ := fld hs ht f2
  obtain ⟨x1, rfl, w1⟩ := fld_int hc h1 (hgi 0 (by omega)) he (v := c1) rfl
  obtain ⟨x2, rfl, w2⟩ := fld_int hc h1 (hgi 1 (by omega)) he (v := c2) rfl
  obtain ⟨x3, rfl, w3⟩ := fld_int hc h1 (hgi 2 (by omega)) he (v := c3) rfl
  obtain ⟨x4, rfl, w4⟩ := fld_int hc h1 (hgi 3 (by omega)) he (v := c4) rfl
  obtain ⟨x5, rfl, w5⟩ := fld_int hc h1 (hgi 4 (by omega)) he (v := c5) rfl
  obtain ⟨x6, rfl, w6⟩ := fld_int hc h1 (hgi 5 (by omega)) he (v := c6) rfl
  obtain ⟨x7, rfl, w7⟩ := fld_int hc h1 (hgi 6 (by omega)) he (v := c7) rfl
  obtain ⟨x8, rfl, w8⟩ := fld_int hc h1 (hgi 7 (by omega)) he (v := c8) rfl
  obtain ⟨x9, rfl, w9⟩ := fld_int hc h1 (hgi 8 (by omega)) he (v := c9) rfl
  obtain ⟨x10, rfl, w10⟩ := fld_int ha h2 has.1 he (v := c10) rfl
  obtain ⟨x11, rfl, w11⟩ := fld_int ha h2 has.2 he (v := c11) rfl
  exact ⟨⟨x0, x1, x2, x3, x4, x5, x6, x7, x8, x9, x10, x11, x12⟩, rfl, ⟨wf_u64_bd w0, w1, w2, w3, w4, w5, w6, w7, w8, w9, wf_i64_bd w10, wf_i64_bd w11, wf_u64_bd w12⟩⟩
end
end Go.Proofs.Ytcbnebcooiagmaa
namespace Go.Proofs.Ytcbnebcooiagmaa
open Go.RowKit
section
variable {P : Program} {k : IntKind} {T e tn bytes : Nat} {ops : Array Oper} {rest : List Oper} {o : Oper} {a : Act} {Q : Exit → Act → World → Prop}
theorem zeroCells_int (q : Nat) : (Builtin.zeroCells (Value.int k 0).cells q).toList = (List.replicate q (0 : Int)).map (Value.int k) := by
  apply List.ext_getElem
  · rw [Array.length_toList, size_zeroCells, List.length_map, List.length_replicate]
    simp [Value.cells]
  · intro i h1 h2
    rw [Array.length_toList, size_zeroCells] at h1
    simp only [Array.getElem_toList, List.getElem_map, List.getElem_replicate]
    simp [Builtin.zeroCells, Value.cells, Nat.mod_one]
theorem run_app_zeros (hT : P.underlying T = some (.slice e)) (hN : P.underlying tn = some (.int .i64)) (hI : elemInfo P e k bytes) (hby : bytes ≤ 8) (hz : (Lit.int k 0).wf = true) (ty : TypeId) (w : World) (base : Nat) (v : Value) (l : List Int) (hown : Owns k e w base v l)
    (q : Nat) (hlen : l.length + q ≤ 1099511627776) (hbase : base ≤ w.heap.size) :
    ∃ v' w', (Builtin.append_ #[T, tn] ty #[v, .int .i64 (q : Int)]).run P w = .ok v' w' ∧ Owns k e w' base v' (l ++ List.replicate q 0) ∧ Grows w v w' v' := by
  have hwf : ∀ z ∈ l ++ List.replicate q (0 : Int), (Lit.int k z).wf = true := by
    intro z hz'
    rcases List.mem_append.1 hz' with h | h
    · exact hown.1 z h
    · rw [(List.mem_replicate.1 h).2]; exact hz
  obtain ⟨i, hi, hz0, hz1, hz2⟩ := info_parts hI
  obtain ⟨a0, c0, rfl⟩ := hown.shape
  have hcap := (cap_of_owns hown).1
  have hw : IntKind.i64.wrap (q : Int) = q := by rw [IntKind.wrap_i64]; omega
  have hneg : ¬ ((q : Int) < 0) := by omega
  have h48i : ¬ (281474976710656 < (q : Int) * (i.bytes : Int)) := by
    rw [hz2, ← Int.natCast_mul]
    have : q * bytes ≤ q * 8 := Nat.mul_le_mul_left _ hby
    omega
  by_cases hq : q = 0
  · subst hq
    refine ⟨.slice a0 l.length c0, w, ?_, by simpa using hown, Grows.refl _ _⟩
    cases a0 <;> simp [Builtin.append_, run_underlying hT, run_underlying hN, sizeOf, typeInfo, hi, asInt, asIntOf, storeCells, hcap, IntKind.wrap_i64]
  have hbb : (l.length + q) * bytes ≤ (l.length + q) * 8 := Nat.mul_le_mul_left _ hby
  have grown : ∀ (olds : List Value), olds = l.map (Value.int k) → c0 < l.length + q → (w.drew.alloc (.cells (olds.toArray ++ Builtin.zeroCells (Value.int k 0).cells q ++ Builtin.zeroCells (Value.int k 0).cells (grownCap w (l.length + q) c0 e - (l.length + q))) e)).ownsRow base e 1
      (.slice (some ⟨w.heap.size, 0, none⟩) (l.length + q) (grownCap w (l.length + q) c0 e)) (l ++ List.replicate q (0 : Int)).length ((l ++ List.replicate q (0 : Int)).map (Value.int k)) := by
    intro olds ho hlt
    have hge := grownCap_ge w (l.length + q) c0 e
    have hcm : grownCap w (l.length + q) c0 e ≤ maxLen := grownCap_le_maxLen w (l.length + q) c0 e (by unfold maxLen; omega)
    refine ⟨by simp, .inr ⟨w.heap.size, _, _, by rw [List.length_append, List.length_replicate], hbase, heap_alloc_new w.drew _, by rw [List.length_append, List.length_replicate]; exact hge, hcm, ?_, ?_⟩⟩
    · rw [Array.size_append, Array.size_append, size_zeroCells, size_zeroCells, List.size_toArray, ho, List.length_map]
      simp [Value.cells]
      omega
    · rw [Array.toList_append, Array.toList_append, zeroCells_int, ho, List.map_append, Nat.mul_one]
      exact List.take_left' (by simp)
  have hgr : ∀ (x : Obj), Grows w (.slice a0 l.length c0) (w.drew.alloc x) (.slice (some ⟨w.heap.size, 0, none⟩) (l.length + q) (grownCap w (l.length + q) c0 e)) := fun x =>
    ⟨⟨rfl, rfl, rfl, by simp, fun j hj _ => Below.heap_alloc w.drew _ j hj⟩, .inr fun g hg => by
      have := room_some hg
      simp [Value.ownBlock] at this
      omega⟩
  by_cases hroom : l.length + q ≤ c0
  · have hrow : w.ownsRow base e 1 (.slice a0 l.length c0) l.length (l.map (Value.int k)) := by
      rcases hown.2 with ⟨_, a1, hv, _⟩ | h2
      · injection hv with _ h2 h3
        omega
      · exact h2
    rcases hrow.2 with ⟨hv, hn⟩ | ⟨g, cap, cur, hv, hbg, hg, hnc, hcm, hcs, htake⟩
    · injection hv with _ _ h3
      omega
    · injection hv with hv1 hv2 hv3
      subst hv1 hv3
      have hst := run_storeCells_at P g l.length e ((List.replicate q (0 : Int)).map (Value.int k)) 0 cur w hg (by rw [List.length_map, List.length_replicate]; omega) (ints_oneCell k _)
      simp only [Nat.add_zero, List.length_map, List.length_replicate] at hst
      have hgr2 : w.grownBy (w.setRow g (cur.toList.take l.length ++ (List.replicate q (0 : Int)).map (Value.int k) ++ cur.toList.drop (l.length + q)).toArray) (some g) := ⟨rfl, rfl, rfl, by simp, fun j _ hj => setRow_other w g j _ (fun e => hj (by rw [e]))⟩
      refine ⟨.slice (some ⟨g, 0, none⟩) (l.length + q) c0, w.setRow g (cur.toList.take l.length ++ (List.replicate q (0 : Int)).map (Value.int k) ++ cur.toList.drop (l.length + q)).toArray, ?_, ⟨hwf, .inr ⟨by simp, .inr ⟨g, c0, _, by rw [List.length_append, List.length_replicate], hbg, setRow_heap w g cur _ e _ hg, by rw [List.length_append, List.length_replicate]; exact hroom, hcm, ?_, ?_⟩⟩⟩, ?_, .inl ?_⟩
      · have hq0 : ¬ (q * 1 = 0) := by omega
        have hzc := zeroCells_int (k := k) q
        simp [Builtin.append_, run_underlying hT, run_underlying hN, sizeOf, typeInfo, zeroValue, hi, hz0, hz1, asInt, asIntOf, hw, hneg, h48i, hroom, hq, Addr.add_lit]
        rw [hzc]
        simp only [List.map_replicate] at hst ⊢
        rw [hst]
        simp
      · simp only [List.size_toArray, List.length_append, List.length_take, List.length_drop, Array.length_toList, List.length_map, List.length_replicate]
        omega
      · rw [show ∀ (x : List Value), x.toArray.toList = x from fun x => rfl]
        have h1 : cur.toList.take l.length = l.map (Value.int k) := by simpa using htake
        rw [h1, List.map_append, Nat.mul_one]
        exact List.take_left' (by simp)
      · have hrm : room (.slice (some ⟨g, 0, none⟩) l.length c0) = some g := if_neg (by omega)
        rw [hrm]
        exact hgr2
      · exact (show room (.slice (some ⟨g, 0, none⟩) (l.length + q) c0) = some g from if_neg (by omega)).trans (show room (.slice (some ⟨g, 0, none⟩) l.length c0) = some g from if_neg (by omega)).symm
  · have hlt : c0 < l.length + q := by omega
    have hfit : Builtin.nextslicecap (l.length + q) c0 * i.bytes ≤ 281474976710656 := growslice_fits (by omega) (by rw [hz2]; omega)
    have hold : (Builtin.firstCells i.size l.length (.slice a0 l.length c0)).run P w.drew = .ok (l.map (Value.int k)).toArray w.drew := by
      cases a0 with
      | none =>
        have hl0 : l = [] := by
          have := hown.rd.void rfl
          exact List.eq_nil_of_length_eq_zero (by omega)
        subst hl0
        simp [Builtin.firstCells]
      | some ad =>
        refine run_firstCells_some (P := P) w.drew i.size l.length ad l.length c0 (l.map (Value.int k)) (by rw [List.length_map, hz1, Nat.mul_one]) (fun j u hu => ?_)
        have hj : j < l.length := by have := (List.getElem?_eq_some_iff.1 hu).1; simpa using this
        obtain ⟨b, o', e', hc⟩ := hown.rd.cell j hj
        injection e' with e'
        subst e'
        rw [Addr.add_lit]
        rw [List.getElem?_map, List.getElem?_eq_getElem hj] at hu
        rw [nth_eq hj] at hc
        exact hc.trans hu
    have hr := Lib.run_append_grow_zeros w T tn ty e i (.int k 0) .i64 .i64 hT hN hi hz0 a0 l.length c0 (l.map (Value.int k)) hold q (by omega) (by omega) hlt (by omega) (by rw [hz2]; have : q * bytes ≤ q * 8 := Nat.mul_le_mul_left _ hby; omega) hfit
    exact ⟨_, _, hr, ⟨hwf, .inr (grown _ rfl hlt)⟩, hgr _⟩
theorem app_zeros (hT : P.underlying T = some (.slice e)) (hN : P.underlying tn = some (.int .i64)) (hI : elemInfo P e k bytes) (hby : bytes ≤ 8) (hz : (Lit.int k 0).wf = true) (hg : o.guard = none) (s x : Operand)
    (ho : o.op = .call { callee := .builtin .append, args := #[s, x], argTypes := #[T, tn] }) (w : World) (base : Nat) (v : Value) (l : List Int) (hs : a.eval s = v) (hown : Owns k e w base v l)
    (q : Nat) (hx : a.eval x = .int .i64 (q : Int)) (hlen : l.length + q ≤ 1099511627776) (hbase : base ≤ w.heap.size)
    (h : ∀ v' w', Owns k e w' base v' (l ++ List.replicate q 0) → Grows w v w' v' → wpList P ops Q rest (a.put o.dst v') w') :
    wpList P ops Q (o :: rest) a w := by
  refine wpList_plain hg fun K hK => ?_
  obtain ⟨v', w', hr, h1, h2⟩ := run_app_zeros (P := P) hT hN hI hby hz o.type w base v l hown q hlen hbase
  unfold Oper.wp execOp
  simp only [ho, resolve, invoke, builtin, Sem.run_bind, Sem.run_pure, Result.andThen_ok, List.map_toArray, List.map_cons, List.map_nil, hs, hx, hr]
  exact hK _ _ (h v' w' h1 h2)
end
end Go.Proofs.Ytcbnebcooiagmaa
namespace Go.Proofs.Ytcbnebcooiagmaa
open Go.RowKit
/-- Behind operation j nothing is asked any more of what operation i left. -/
def kills (KL : List (Nat × Nat)) (j i : Nat) : Bool := KL.any fun p => p.1 == j && p.2 == i
def killed (KL : List (Nat × Nat)) (i : Nat) : Bool := KL.any fun p => p.2 == i
theorem not_killed {KL : List (Nat × Nat)} {i k : Nat} (h : killed KL i = false) : kills KL k i = false := by
  unfold killed at h
  unfold kills
  rw [List.any_eq_false] at h ⊢
  intro p hp
  have := h p hp
  simp only [Bool.and_eq_true, not_and]
  exact fun _ => this
def killOk (l : List Oper) (f : Nat) (KL : List (Nat × Nat)) (Bs : List (List Nat)) : Bool :=
  (List.range l.length).all fun i => (Bs.getD i []).all fun j => KL.all fun p => p.2 != j || (p.1 == i || waits l f p.1 i)
theorem killOk_get {l : List Oper} {f : Nat} {KL : List (Nat × Nat)} {Bs : List (List Nat)} (h : killOk l f KL Bs = true) : ∀ i, i < l.length → ∀ j ∈ Bs.getD i [], ∀ k, k < l.length → kills KL k j = true → k = i ∨ waits l f k i = true := by
  intro i hi j hj k _ hk
  have h1 := List.all_eq_true.1 (List.all_eq_true.1 (List.all_eq_true.1 h i (by simpa using hi)) j hj)
  obtain ⟨p, hp, he⟩ := List.any_eq_true.1 hk
  simp only [Bool.and_eq_true, beq_iff_eq] at he
  have h2 := h1 p hp
  rw [Bool.or_eq_true, Bool.or_eq_true] at h2
  rcases h2 with e | e | e
  · rw [bne_iff_ne] at e; exact absurd he.2 e
  · rw [beq_iff_eq] at e; exact .inl (he.1.symm.trans e)
  · rw [he.1] at e; exact .inr e
section
variable {P : Program} {Gs : Nat → World → World → Prop} {I : Nat → World → Prop} {F : Nat → Value → World → Prop} {D : List Tmp} {ds : List Deferred} {l : List Oper} {t0 : Array Value}
structure Mid3 (KL : List (Nat × Nat)) (l : List Oper) (I : Nat → World → Prop) (F : Nat → Value → World → Prop) (D : List Tmp) (n : Nat) (t0 : Array Value) (x : Nat → Value) (listed : Array Bool) (t : Array Value) (w : World) : Prop where
  size : listed.size = n
  tsize : t.size = t0.size
  here : ∀ j, j < n → listed.getD j true = true → (D.getD j 0 < t0.size → t[D.getD j 0]? = some (x j)) ∧ ((∀ k, k < n → kills KL k j = true → listed.getD k true = false) → F j (x j) w)
  wait : ∀ j, j < n → listed.getD j true = false → I j w
  fin : I n w
  other : ∀ d, (∀ j, j < n → listed.getD j true = true → D.getD j 0 ≠ d) → t[d]? = t0[d]?
  shut : ∀ j o, l[j]? = some o → listed.getD j true = true → ∀ k ∈ beforeOf o, listed.getD k true = true
theorem reg_mid3 {Q : Exit → Act → World → Prop} {Bs : List (List Nat)} (KL : List (Nat × Nat)) (f : Nat)
    (hF : ∀ i j v w w', i < l.length → j < l.length → j ≠ i → waits l f i j = false → kills KL j i = false → F i v w → Gs j w w' → F i v w')
    (hK : ∀ i, i < l.length → ∀ j ∈ Bs.getD i [], ∀ k, k < l.length → kills KL k j = true → k = i ∨ waits l f k i = true)
    (hI : ∀ i j w w', i ≤ l.length → j < l.length → j ≠ i → waits l f j i = false → I i w → Gs j w w' → I i w')
    (hok : slotsOk2 l D Bs t0.size = true) (hap : slotsApart D l.length = true) (hB : Bs.length = l.length) (ho : Obls2 P Gs I F D ds l t0 l 0 Bs)
    (hQ : ∀ w, I l.length w → Given (fun i v w => killed KL i = false → F i v w) D w t0 (List.range l.length) fun t => Q .normal ⟨t, ds⟩ w) :
    ∀ (fuel : Nat) (x : Nat → Value) (listed : Array Bool) (t : Array Value) (w : World), Mid3 KL l I F D l.length t0 x listed t w → listed.toList.count false = fuel → wpAny P .any l.toArray Q fuel listed ⟨t, ds⟩ w := by
  have hapart : ∀ i j, i < l.length → j < l.length → D.getD i 0 = D.getD j 0 → i = j := by
    intro i j hi hj he
    unfold slotsApart at hap
    have := List.all_eq_true.1 (List.all_eq_true.1 hap i (by simpa using hi)) j (by simpa using hj)
    rw [Bool.or_eq_true] at this
    rcases this with h | h
    · simpa using h
    · rw [he] at h; simp at h
  have hslot : ∀ i o, l[i]? = some o → ((o.dst = some (D.getD i 0) ∧ D.getD i 0 < t0.size) ∨ (o.dst = none ∧ t0.size ≤ D.getD i 0)) ∧ (∀ j ∈ Bs.getD i [], j ∈ beforeOf o) ∧ (∀ j ∈ beforeOf o, j < i) ∧ (∀ cs b, o.op ≠ .select cs b) ∧
      ∀ d ∈ o.looksAt l.toArray, ∀ j oj, l[j]? = some oj → D.getD j 0 = d → j ∈ Bs.getD i [] ∨ i ∈ beforeOf oj := by
    intro i o h
    have hi : i < l.length := (List.getElem?_eq_some_iff.1 h).1
    unfold slotsOk2 at hok
    have h1 := List.all_eq_true.1 hok i (by simpa using hi)
    rw [h] at h1
    simp only [Bool.and_eq_true] at h1
    obtain ⟨⟨⟨⟨a, c⟩, d⟩, e⟩, g⟩ := h1
    refine ⟨?_, fun j hj => by simpa using List.all_eq_true.1 c j hj, fun j hj => by simpa using List.all_eq_true.1 d j hj, fun cs b' he => ?_, fun d' hd' j oj hj hjd => ?_⟩
    · cases hdst : o.dst with
      | none => rw [hdst] at a; exact .inr ⟨rfl, by simpa using a⟩
      | some d => rw [hdst, Bool.and_eq_true, beq_iff_eq] at a; exact .inl ⟨by rw [a.1], by simpa using a.2⟩
    · rw [he] at e; simp at e
    · have := List.all_eq_true.1 (List.all_eq_true.1 g d' hd') j (by simpa using (List.getElem?_eq_some_iff.1 hj).1)
      rw [hj] at this
      simp only [Bool.or_eq_true, bne_iff_ne, ne_eq, hjd, not_true_eq_false, false_or, List.contains_iff_mem] at this
      exact this
  have hfin : ∀ (x : Nat → Value) (listed : Array Bool) (t : Array Value) (w : World), Mid3 KL l I F D l.length t0 x listed t w → (∀ j, j < l.length → listed.getD j true = true) → Q .normal ⟨t, ds⟩ w := by
    intro x listed t w hm hall
    have h1 := (hQ w hm.fin).use x (fun j hj hkl => (hm.here j (by simpa using hj) (hall j (by simpa using hj))).2 (fun k _ hkk => absurd hkk (by rw [not_killed hkl]; simp)))
    have h2 : (List.range l.length).foldl (fun t j => t.setIfInBounds (D.getD j 0) (x j)) t0 = t := by
      apply Array.ext_getElem?
      intro d
      by_cases hd : ∃ j, j < l.length ∧ D.getD j 0 = d
      · obtain ⟨j, hj, rfl⟩ := hd
        by_cases hin : D.getD j 0 < t0.size
        · rw [fold_at x _ _ (by simpa using hj) (fun k hk e => hapart k j (by simpa using hk) hj e) hin, (hm.here j hj (hall j hj)).1 hin]
        · have hin' : t0.size ≤ D.getD j 0 := Nat.le_of_not_lt hin
          have e1 : ((List.range l.length).foldl (fun t j => t.setIfInBounds (D.getD j 0) (x j)) t0).size ≤ D.getD j 0 := by rw [fold_size]; omega
          have e2 : t.size ≤ D.getD j 0 := by rw [hm.tsize]; omega
          rw [Array.getElem?_eq_none e1, Array.getElem?_eq_none e2]
      · rw [fold_other x _ _ (fun j hj e => hd ⟨j, by simpa using hj, e⟩), hm.other d (fun j hj _ e => hd ⟨j, hj, e⟩)]
    rw [h2] at h1
    exact h1
  have hnil : ∀ (x : Nat → Value) (listed : Array Bool) (t : Array Value) (w : World), Mid3 KL l I F D l.length t0 x listed t w → Region.ready .any l.toArray listed = [] → ∀ j, j < l.length → listed.getD j true = true := by
    intro x listed t w hm hr j
    induction j using Nat.strongRecOn with
    | _ j ih =>
      intro hj
      cases hu : listed.getD j true with
      | true => rfl
      | false =>
        obtain ⟨o, hoj⟩ : ∃ o, l[j]? = some o := ⟨_, List.getElem?_eq_getElem hj⟩
        obtain ⟨_, _, hlt, _, _⟩ := hslot j o hoj
        have := ready_of hoj hu (fun k hk => by
          have hkj := hlt k hk
          rw [getD_any false true (by rw [hm.size]; omega)]
          exact ih k hkj (by omega))
        rw [hr] at this
        cases this
  intro fuel
  induction fuel with
  | zero =>
    intro x listed t w hm hc
    have hall : ∀ j, j < l.length → listed.getD j true = true := by
      intro j hj
      have hjs : j < listed.size := by rw [hm.size]; exact hj
      have h0 : false ∉ listed.toList := List.count_eq_zero.1 hc
      cases hu : listed.getD j true with
      | true => rfl
      | false =>
        have : listed.toList[j] = false := by simpa [Array.getD, hjs] using hu
        exact absurd (this ▸ List.getElem_mem _) h0
    refine ⟨?_, hfin x listed t w hm hall⟩
    cases hr : Region.ready .any l.toArray listed with
    | nil => rfl
    | cons i r =>
      obtain ⟨o, hoi, hu, _⟩ := ready_mem (l := l) (listed := listed) (i := i) (by rw [hr]; simp)
      rw [hall i (List.getElem?_eq_some_iff.1 hoi).1] at hu
      cases hu
  | succ fuel ih =>
    intro x listed t w hm hc
    refine ⟨fun hr => hfin x listed t w hm (hnil x listed t w hm hr), fun i hi => ?_⟩
    obtain ⟨o, hoi, hu, hbk⟩ := ready_mem hi
    have hil : i < l.length := (List.getElem?_eq_some_iff.1 hoi).1
    have his : i < listed.size := by rw [hm.size]; exact hil
    obtain ⟨hdst, hbf, hbl, hsel, hlook⟩ := hslot i o hoi
    have hbk' : ∀ k ∈ beforeOf o, k < l.length ∧ listed.getD k true = true := fun k hk => by
      have := hbl k hk
      exact ⟨by omega, by rw [getD_any true false (by rw [hm.size]; omega)]; exact hbk k hk⟩
    have hob := ho.get (Bs := Bs) hB i o hoi
    rw [Nat.zero_add] at hob
    have h1 := (hob w (hm.wait i hil hu)).use x (fun j hj => (hm.here j (hbk' j (hbf j hj)).1 (hbk' j (hbf j hj)).2).2 (fun k hk hkk => by
      cases hlk : listed.getD k true with
      | false => rfl
      | true =>
        rcases hK i hil j hj k hk hkk with e | e
        · rw [e, hu] at hlk; cases hlk
        · have := waits_listed hm.shut f k i e hlk
          rw [hu] at this
          cases this))
    have hsame : ∀ d ∈ o.looksAt l.toArray, t[d]? = ((Bs.getD i []).foldl (fun t j => t.setIfInBounds (D.getD j 0) (x j)) t0)[d]? := by
      intro d hd
      by_cases hx : ∃ j, j < l.length ∧ D.getD j 0 = d ∧ j ∈ Bs.getD i []
      · obtain ⟨j, hj, rfl, hjb⟩ := hx
        by_cases hin : D.getD j 0 < t0.size
        · rw [(hm.here j hj (hbk' j (hbf j hjb)).2).1 hin, fold_at x _ _ hjb (fun k hk e => hapart k j (hbk' k (hbf k hk)).1 hj e) hin]
        · have hin' : t0.size ≤ D.getD j 0 := Nat.le_of_not_lt hin
          have e1 : ((Bs.getD i []).foldl (fun t j => t.setIfInBounds (D.getD j 0) (x j)) t0).size ≤ D.getD j 0 := by rw [fold_size]; omega
          have e2 : t.size ≤ D.getD j 0 := by rw [hm.tsize]; omega
          rw [Array.getElem?_eq_none e1, Array.getElem?_eq_none e2]
      · rw [fold_other x _ _ (fun j hj e => hx ⟨j, (hbk' j (hbf j hj)).1, e, hj⟩)]
        refine hm.other d fun j hj hjl e => ?_
        obtain ⟨oj, hoj⟩ : ∃ o, l[j]? = some o := ⟨_, List.getElem?_eq_getElem hj⟩
        rcases hlook d hd j oj hoj e with h | h
        · exact hx ⟨j, hj, e, h⟩
        · have := hm.shut j oj hoj hjl i h
          rw [hu] at this
          cases this
    have hnext : ∀ v w', Gs i w w' → F i v w' → wpAny P .any l.toArray Q fuel (listed.setIfInBounds i true) ⟨t.setIfInBounds (D.getD i 0) v, ds⟩ w' := by
      intro v w' hg hf
      refine ih (fun j => if j = i then v else x j) _ _ _ ⟨by simp [hm.size], by simp [hm.tsize], fun j hj hl => ?_, fun j hj hl => ?_, ?_, fun d hd => ?_, fun j oj hoj hl k hk => ?_⟩ (by have := count_set his hu; omega)
      · rw [getD_set his] at hl
        by_cases hji : i = j
        · subst hji
          refine ⟨fun hlt => ?_, fun _ => by rw [if_pos rfl]; exact hf⟩
          rw [Array.getElem?_setIfInBounds_self, if_pos (by rw [hm.tsize]; exact hlt), if_pos rfl]
        · rw [if_neg hji] at hl
          obtain ⟨h2, h3⟩ := hm.here j hj hl
          rw [Array.getElem?_setIfInBounds_ne (fun e => hji (hapart i j hil hj e)), if_neg (fun e => hji e.symm)]
          refine ⟨h2, fun hp => hF j i _ _ _ hj hil hji ?_ ?_ (h3 (fun k hk hkk => ?_)) hg⟩
          rotate_left
          · cases hki : kills KL i j with
            | false => rfl
            | true =>
              have := hp i hil hki
              rw [getD_set his, if_pos rfl] at this
              cases this
          · have := hp k hk hkk
            rw [getD_set his] at this
            by_cases hik : i = k
            · rw [if_pos hik] at this; cases this
            · rwa [if_neg hik] at this
          cases hw : waits l f j i with
          | false => rfl
          | true =>
            have := waits_listed hm.shut f j i hw hl
            rw [hu] at this
            cases this
      · rw [getD_set his] at hl
        by_cases hji : i = j
        · rw [if_pos hji] at hl; cases hl
        · rw [if_neg hji] at hl
          refine hI j i _ _ (by omega) hil hji ?_ (hm.wait j hj hl) hg
          cases hw : waits l f i j with
          | false => rfl
          | true =>
            exfalso
            have hset : ∀ q p, l[q]? = some p → (listed.setIfInBounds i true).getD q true = true → ∀ k ∈ beforeOf p, (listed.setIfInBounds i true).getD k true = true := by
              intro q p hq hlq k hk
              rw [getD_set his] at hlq ⊢
              by_cases hki : i = k
              · rw [if_pos hki]
              · rw [if_neg hki]
                by_cases hqi : i = q
                · subst hqi
                  obtain rfl : o = p := by rw [hoi] at hq; exact Option.some.inj hq
                  exact (hbk' k hk).2
                · rw [if_neg hqi] at hlq
                  exact hm.shut q p hq hlq k hk
            have := waits_listed hset f i j hw (by rw [getD_set his, if_pos rfl])
            rw [getD_set his, if_neg hji, hl] at this
            cases this
      · refine hI l.length i _ _ (Nat.le_refl _) hil (by omega) ?_ hm.fin hg
        cases hw : waits l f i l.length with
        | false => rfl
        | true =>
          exfalso
          have : ∀ (f q : Nat), waits l f q l.length = true → False := by
            intro f
            induction f with
            | zero => intro q h; simp [waits] at h
            | succ f ihf =>
              intro q h
              unfold waits at h
              split at h
              · cases h
              · rename_i p hp
                obtain ⟨k, hk, hk2⟩ := List.any_eq_true.1 h
                rw [Bool.or_eq_true] at hk2
                rcases hk2 with e | e
                · have := (hslot q p hp).2.2.1 k hk
                  have hq : q < l.length := (List.getElem?_eq_some_iff.1 hp).1
                  rw [beq_iff_eq.1 e] at this
                  omega
                · exact ihf k e
          exact this f i hw
      · have hdi : D.getD i 0 ≠ d := hd i hil (by rw [getD_set his, if_pos rfl])
        rw [Array.getElem?_setIfInBounds_ne hdi]
        exact hm.other d fun j hj hl => hd j hj (by rw [getD_set his]; split <;> simp [hl])
      · rw [getD_set his] at hl ⊢
        by_cases hki : i = k
        · rw [if_pos hki]
        · rw [if_neg hki]
          by_cases hji : i = j
          · subst hji
            obtain rfl : o = oj := by rw [hoi] at hoj; exact Option.some.inj hoj
            exact (hbk' k hk).2
          · rw [if_neg hji] at hl
            exact hm.shut j oj hoj hl k hk
    have hw := wanted_same (o := o) hsame
    unfold wpOp
    rw [show l.toArray[i]? = some o by simpa using hoi]
    show if Region.wanted o (yielded l.toArray t) = true then _ else _
    rw [hw]
    split
    · rename_i hwt
      replace h1 := h1.1 hwt
      refine .inl ?_
      exact wp_same2 (R := fun v w' => Gs i w w' ∧ F i v w') (by rw [fold_size, hm.tsize]) (by rw [fold_size]; exact hdst) (exec_same hsel hsame) h1 (fun v w' hr => hnext v w' hr.1 hr.2)
    · rename_i hwt
      replace h1 := h1.2 (by simpa using hwt)
      have hn := hnext undef w h1.1 h1.2
      rcases hdst with ⟨hd1, _⟩ | ⟨hd1, hd2⟩
      · rw [hd1]; exact hn
      · rw [hd1]
        have e2 : t.setIfInBounds (D.getD i 0) undef = t := Array.setIfInBounds_eq_of_size_le (by rw [hm.tsize]; exact hd2)
        rw [e2] at hn
        exact hn
def AllBear3 (KL : List (Nat × Nat)) (l : List Oper) (f : Nat) (s : Nat) (G : World → World → Prop) : List (Value → World → Prop) → Nat → Prop
  | [], _ => True
  | p :: r, i => (Stays G p ∨ waits l f i s = true ∨ i = s ∨ kills KL s i = true) ∧ AllBear3 KL l f s G r (i + 1)
def BearAll3 (KL : List (Nat × Nat)) (l : List Oper) (f : Nat) (L : List (Value → World → Prop)) : List (Nat × (World → World → Prop)) → Prop
  | [] => True
  | (s, G) :: r => AllBear3 KL l f s G L 0 ∧ BearAll3 KL l f L r
theorem AllBear3.get {KL : List (Nat × Nat)} {f s : Nat} {G : World → World → Prop} : ∀ {L : List (Value → World → Prop)} {k : Nat}, AllBear3 KL l f s G L k → ∀ i v w w', s ≠ k + i → waits l f (k + i) s = false → kills KL s (k + i) = false → pickF L i v w → G w w' → pickF L i v w'
  | [], _, _, _, _, _, _, _, _, _, _, _ => by simp [pickF]
  | p :: r, k, h, 0, v, w, w', hs, hw, hkl, hp, hg => by
    rcases h.1 with h1 | h1 | h1 | h1
    · exact h1 v w w' hp hg
    · rw [Nat.add_zero] at hw; rw [hw] at h1; cases h1
    · exact absurd h1.symm hs
    · rw [Nat.add_zero] at hkl; rw [hkl] at h1; cases h1
  | p :: r, k, h, i + 1, v, w, w', hs, hw, hkl, hp, hg =>
    AllBear3.get (L := r) (k := k + 1) h.2 i v w w' (by omega) (by rw [show k + 1 + i = k + (i + 1) by omega]; exact hw) (by rw [show k + 1 + i = k + (i + 1) by omega]; exact hkl) hp hg
theorem bear3_get {KL : List (Nat × Nat)} {f : Nat} {L : List (Value → World → Prop)} (hk : AllStay Kept L) : ∀ {S : List (Nat × (World → World → Prop))}, BearAll3 KL l f L S → ∀ i j v w w', j ≠ i → waits l f i j = false → kills KL j i = false → pickF L i v w → pickG S j w w' → pickF L i v w'
  | [], _, i, _, v, w, w', _, _, _, hp, hg => pick_stays hk i v w w' hp hg
  | (s, G) :: r, h, i, j, v, w, w', hne, hw, hkl, hp, hg => by
    unfold pickG at hg
    by_cases e : j = s
    · rw [if_pos e] at hg
      subst e
      exact AllBear3.get h.1 i v w w' (by rw [Nat.zero_add]; exact hne) (by rw [Nat.zero_add]; exact hw) (by rw [Nat.zero_add]; exact hkl) hp hg
    · rw [if_neg e] at hg
      exact bear3_get hk (S := r) h.2 i j v w w' hne hw hkl hp hg
theorem reg_kill {Q : Exit → Act → World → Prop} {id : Nat} {w : World} (KL : List (Nat × Nat)) (L : List (Value → World → Prop)) (S : List (Nat × (World → World → Prop))) (IL : List (Nat × (World → Prop))) (D : List Tmp) (Bs : List (List Nat)) (Ns : List Nat) (f : Nat) (hm : P.follows .mixedOrders = true)
    (hkok : killOk l f KL Bs = true) (hLk : AllStay Kept L) (hLS : BearAll3 KL l f L S) (hIk : AllKeepI IL) (hIS : BearAllI l f IL S) (h0 : HoldI w.drew IL)
    (m : Nat) (hsz : t0.size = m) (hok : slotsOk2 l D Bs m = true) (hap : slotsApart D l.length = true) (hB : Bs.length = l.length) (hN : List.range l.length = Ns) (n : Nat) (hn : l.length = n) (ho : Obls2 P (pickG S) (pickI IL) (pickF L) D ds l t0 l 0 Bs)
    (hQ : ∀ w', pickI IL n w' → Given (fun i v w => killed KL i = false → pickF L i v w) D w' t0 Ns fun t => Q .normal ⟨t, ds⟩ w') : (Code.region id l.toArray true).wp P Q ⟨t0, ds⟩ w := by
  subst hsz
  subst hN
  subst hn
  refine wp_region_any hm (reg_mid3 KL f (fun i j v w w' _ _ hne hw hkl hp hg => bear3_get hLk hLS i j v w w' hne hw hkl hp hg) (killOk_get hkok) (fun i j w w' _ _ hne hw hp hg => bearI_get hIk hIS i j w w' hne hw hp hg) hok hap hB ho hQ _ (fun _ => undef) _ _ _ ⟨by simp, rfl, fun j hj hl => ?_, fun j hj _ => hold_get h0 j, hold_get h0 _, fun d _ => rfl, fun j oj hoj hl => ?_⟩ (by simp))
  · simp [Array.getD, hj] at hl
  · simp [Array.getD, (List.getElem?_eq_some_iff.1 hoj).1] at hl
end
end Go.Proofs.Ytcbnebcooiagmaa
namespace Go.Proofs.Ytcbnebcooiagmaa
open Go.RowKit
set_option maxRecDepth 100000 in
set_option maxHeartbeats 1000000 in
theorem wbytes_any (h : Nat) (v : Value) (l : List Int) (a : Option Addr) (n c : Nat) (lb : List Int) (w : World) (ho : VarAt .u8 121 5 w h v l) (hl : l.length + n ≤ 900000) (hr : RdAt .u8 w a n c lb) (hne : ∀ x, a = some x → 0 < n → x.block ≠ h ∧ some x.block ≠ room v) :
    Calls Try.prog 36 #[.pointer (some ⟨h, 0, none⟩), .slice a n c] w fun e w' => e = .returned (.pointer (some ⟨h, 0, none⟩)) ∧ (∃ v', VarAt .u8 121 5 w' h v' (l ++ varF 9 (zigI n) ++ lb) ∧ NewRoom w v v') ∧ Spared h (room v) w w' := by
  have hvl := (varF_len 9 (zigI n)).2
  have hll : (l ++ varF 9 (zigI n)).length ≤ 900010 := by rw [List.length_append]; omega
  have HL := Lib.hid hr.len
  go_enter Try.func36, Try.ntmps36
  go_wp2_with fail
  refine (wint_any h v l n w ho (by omega) (by omega) (by omega)).mono ?_
  rintro e w1 ⟨rfl, ⟨v1, ho1, hn1⟩, hs1⟩
  have hr1 := hr.sparedN hs1 hne
  have hrow := ho1.row
  have hown := ho1.own
  have hlt := ho1.lt
  generalize hl1 : l ++ varF 9 (zigI n) = l1 at *
  have HL1 := Lib.hid hl1
  clear hl1
  obtain ⟨q, hq⟩ : ∃ q, l1.length = q := ⟨_, rfl⟩
  rw [hq] at hll
  have HQ := Lib.hid hq
  obtain ⟨av, cv, rfl⟩ := hown.shapeN q hq
  obtain ⟨c0, cf⟩ := row_cell hrow
  have HR := Lib.hid hrow
  have HN := Lib.hid (room_ne hown)
  clear hq hrow ho1 hr
  go_wp2_with (at_builtin; refine app_all u8T u8I (by decide) rfl (.tmp 13) (.tmp 14) rfl _ (h + 1) _ l1 rfl hown _ _ _ lb rfl hr1 (by rw [HQ.out]; omega) hlt ?_; intro v2 w2 ho2 hg2; obtain ⟨a2, k2, rfl⟩ := ho2.shapeN (q + n) (by rw [List.length_append, HQ.out, HL.out]); have hr2 := grown_row HR.out hg2.1 HN.out; obtain ⟨c2, cf2⟩ := row_cell hr2; have HR2 := Lib.hid hr2; clear hr2)
  go_ret
  rw [HL1.out]
  refine ⟨rfl, ⟨_, VarAt.store HR2.out ho2, hn1.trans hs1.size hg2.2⟩, ?_⟩
  exact hs1.trans hn1 (((Spared.refl _ _ _).row hg2.1).at (store_grown _ _ _))
end Go.Proofs.Ytcbnebcooiagmaa
namespace Go.Proofs.Ytcbnebcooiagmaa
open Go.RowKit
def listF : List Int → List Int
  | [] => []
  | x :: r => varF 9 (zigI x) ++ listF r
theorem listF_snoc (l : List Int) (x : Int) : listF (l ++ [x]) = listF l ++ varF 9 (zigI x) := by
  induction l with
  | nil => simp [listF]
  | cons y r ih => simp only [List.cons_append, listF, ih, List.append_assoc]
theorem listF_len (l : List Int) : (listF l).length ≤ 10 * l.length := by
  induction l with
  | nil => simp [listF]
  | cons y r ih =>
    have := (varF_len 9 (zigI y)).2
    simp only [listF, List.length_append, List.length_cons]
    omega
end Go.Proofs.Ytcbnebcooiagmaa
namespace Go.Proofs.Ytcbnebcooiagmaa
open Go.RowKit
set_option linter.unusedSimpArgs false in
set_option linter.unusedVariables false in
set_option maxRecDepth 100000 in
set_option maxHeartbeats 2000000 in
theorem rcbytes_any (x0 : Value) (l : List Int) (a : Option Addr) (n c : Nat) (lb : List Int) (w : World) (base : Nat) (h : Owns .u8 5 w base x0 l) (hbase : base ≤ w.heap.size) (hn : l.length ≤ 900000) (hn2 : n ≤ 900000) (hr : RdAt .u8 w a n c lb) (hne : ∀ x, a = some x → 0 < n → some x.block ≠ room x0) :
    Calls Try.prog 43 #[x0, .slice a n c] w fun e w' => ∃ r, e = .returned r ∧ Owns .u8 5 w' base r (l ++ varF 9 (zigI n) ++ lb) ∧ Grows w x0 w' r := by
  obtain ⟨q, hq⟩ : ∃ q, l.length = q := ⟨_, rfl⟩
  obtain ⟨ax, cx, rfl⟩ := h.shapeN q hq
  have H := Lib.hid h
  have R := Lib.hid hr
  have HL := Lib.hid hr.len
  have hvl := (varF_len 9 (zigI n)).2
  have hll : (l ++ varF 9 (zigI n)).length ≤ 900010 := by rw [List.length_append]; omega
  have HQ := Lib.hid hq
  have HNE := Lib.hid hne
  clear h hq hr hne
  go_enter Try.func43, Try.ntmps43
  go_wp2_with fail
  refine (rcint_any _ l n w base H.out hbase (by omega) (by omega) (by omega)).mono ?_
  rintro e w1 ⟨r, rfl, ho, hg⟩
  obtain ⟨q1, hq1⟩ : ∃ q1, (l ++ varF 9 (zigI n)).length = q1 := ⟨_, rfl⟩
  obtain ⟨a1, c1, rfl⟩ := ho.shapeN q1 hq1
  rw [hq1] at hll
  have HQ1 := Lib.hid hq1
  have HO := Lib.hid ho
  have HG := Lib.hid hg
  have R1 := Lib.hid (R.out.grownN hg.1 (fun x hx hp e => HNE.out x hx hp e))
  have hsz := hg.1.size
  clear ho hg hq1
  go_wp2_with (at_builtin; refine app_all u8T u8I (by decide) rfl (.tmp 8) (.tmp 9) rfl _ base _ _ rfl HO.out _ _ _ lb rfl R1.out (by rw [HQ1.out]; omega) (by omega) ?_; intro v2 w2 ho2 hg2; obtain ⟨a2, k2, hv2⟩ := ho2.shapeN (q1 + n) (by rw [List.length_append, HQ1.out, HL.out]); subst hv2)
  go_ret
  exact ⟨_, rfl, ho2, HG.out.trans hg2⟩
end Go.Proofs.Ytcbnebcooiagmaa
