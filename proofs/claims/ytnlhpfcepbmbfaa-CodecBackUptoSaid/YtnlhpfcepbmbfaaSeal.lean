/- The contracts of crc.Seal and crc.Open. -/
import Derived.Test.YtnlhpfcepbmbfaaSealLaw
import Derived.Test.YtnlhpfcepbmbfaaCells
import Derived.Test.YtnlhpfcepbmbfaaClone
import Derived.Test.YtnlhpfcepbmbfaaGet
import Derived.Test.YtnlhpfcepbmbfaaStr
namespace Go.Proofs.Ytnlhpfcepbmbfaa
open Go.RowKit
theorem below_boxed {w w2 : World} {o : Obj} (h : Below (w.alloc o).heap.size (w.alloc o) w2) : Below w.heap.size w w2 := ((Below.refl w.heap.size w).alloc (Nat.le_refl _) o).trans (h.mono (by simp))
theorem Owns.lower {k : IntKind} {e : TypeId} {w w1 : World} {base : Nat} {v : Value} {l : List Int} (h : Owns k e w1 base v l) (hb : w.heap.size ≤ base) : Owns k e w1 w.heap.size v l := h.mono hb
set_option maxHeartbeats 400000 in
theorem seal_any (a : Option Addr) (n c : Nat) (l : List Int) (w : World) (h : RdAt .u8 w a n c l) (hn : n ≤ 1000000000) :
    Calls Try.prog 37 #[.slice a n c] w (GivesBytes (sealL l) w) := by
  have hbd := u32_bd (sumB l)
  have hbd1 := hbd.1
  have hbd2 := hbd.2
  clear hbd
  go_enter Try.func37, Try.ntmps37
  go_wp2_with fail
  refine (sum_one _ _ l _ (PartsAt.one h _)).mono ?_
  rintro e w1 ⟨rfl, hb⟩
  replace hb := below_boxed hb
  have hr := h.below hb
  go_wp2_with fail
  refine (put_any _ _ _ l _ _ _ hr hn (by omega) (by omega) (by omega) (by omega)).mono ?_
  rintro e w2 ⟨r, rfl, ho, hb2⟩
  go_wp2
  go_ret
  exact ⟨_, rfl, ho.mono hb.size, hb.trans (hb2.mono hb.size)⟩
theorem RdAt.drop {w : World} {b o n c : Nat} {l : List Int} {kd : IntKind} (h : RdAt kd w (some ⟨b, o, none⟩) n c l) (k : Nat) (hk : k ≤ n) : RdAt kd w (some ⟨b, o + k, none⟩) (n - k) (c - k) (l.drop k) :=
  ⟨by rw [List.length_drop, h.len], by have := h.cap; omega, by have := h.max; omega, fun i hi => by
    obtain ⟨b', o', e, hc⟩ := h.cell (k + i) (by omega)
    injection e with e
    injection e with e1 e2
    subst e1 e2
    refine ⟨_, _, rfl, ?_⟩
    rw [Nat.add_assoc, hc]; congr 1
    have hl := h.len
    rw [nth_eq (by omega), nth_eq (by rw [List.length_drop]; omega), List.getElem_drop], fun x hx => h.wf x (List.mem_of_mem_drop hx), fun h => by cases h⟩
def openL (l : List Int) : List Int := if openOk l = true then l.take (l.length - 4) else []
def openE (l : List Int) : Int := if l.length < 4 then 21 else if openOk l = true then 0 else 23
def GivesOpen (l : List Int) (w : World) (e : Ending) (w' : World) : Prop := ∃ v, e = .returned (.tuple #[v, .int .i64 (openE l)]) ∧ Owns .u8 5 w' w.heap.size v (openL l) ∧ Below w.heap.size w w'
set_option maxHeartbeats 400000 in
theorem open_short (a : Option Addr) (n c : Nat) (l : List Int) (w : World) (h : RdAt .u8 w a n c l) (hn : n < 4) :
    Calls Try.prog 33 #[.slice a n c] w (GivesOpen l w) := by
  have e1 : openE l = 21 := by unfold openE; rw [if_pos (by rw [h.len]; exact hn)]
  have e2 : openL l = [] := by unfold openL openOk; rw [decide_eq_false (by rw [h.len]; omega)]; rfl
  have E1 := Lib.hid e1
  have E2 := Lib.hid e2
  clear e1 e2
  go_enter Try.func33, Try.ntmps33
  go_wp2
  go_ret2
  exact ⟨.slice none 0 0, by rw [E1.out]; rfl, by rw [E2.out]; exact Owns.nil _ _ _ _, Below.refl _ _⟩
theorem get4f (l : List Int) (w : World) (a : Option Addr) (c : Nat) (h : RdAt .u8 w a 4 c l) :
    Calls Try.prog 34 #[.slice a 4 c, .int .i64 4] w fun e w' => e = .returned (.tuple #[.int .u64 (getK l 4), .bool true]) ∧ w = w' := get_any a 4 c l 4 w h
theorem get4 (l : List Int) (w : World) (a : Option Addr) (c : Nat) (h : RdAt .u8 w a 4 c l) :
    Calls Try.prog 34 #[.slice a 4 c, .int .i64 4] w fun e w' => e = .returned (.tuple #[.int .u64 (getK l 4), .bool true]) ∧ w = w' := get_any a 4 c l 4 w h
set_option maxRecDepth 100000 in
set_option maxHeartbeats 400000 in
theorem open_long (b o m c : Nat) (l : List Int) (w : World) (h : RdAt .u8 w (some ⟨b, o, none⟩) (m + 4) c l) (hn : m ≤ 1000000) :
    Calls Try.prog 33 #[.slice (some ⟨b, o, none⟩) (m + 4 : Nat) c] w (GivesOpen l w) := by
  have hcap := h.cap
  have hmax := h.max
  unfold maxLen at hmax
  have hd : RdAt .u8 w (some ⟨b, o + m, none⟩) 4 (c - m) (l.drop m) := by have := h.drop m (by omega); rwa [Nat.add_sub_cancel_left] at this
  have ht := (RdAt.take h m (by omega))
  have hbs := hd.bytes
  have hG := getK_bd (l.drop m) 4 (fun i _ => hbs.at i)
  have HG := Lib.hid (get4 _ w _ _ hd)
  have hG1 := hG.1
  have hG2 : getK (l.drop m) 4 ≤ 4294967295 := by have := hG.2; omega
  clear hG
  have hl := h.len
  have hm : l.length - 4 = m := by omega
  have hdec1 : decide ((m : Int) + 4 < 4) = false := decide_eq_false (by omega)
  by_cases heq : getK (l.drop m) 4 = rnum (sumB (l.take m))
  · have e0 : openOk l = true := by unfold openOk; rw [hm, decide_eq_true heq, decide_eq_true (by omega : 4 ≤ l.length)]; rfl
    have E1 : Hid (openE l = 0) := by show _ = _; unfold openE; rw [if_neg (by omega), if_pos e0]
    have E2 : Hid (openL l = l.take m) := by show _ = _; unfold openL; rw [if_pos e0, hm]
    have hne : (getK (l.drop m) 4 != rnum (sumB (l.take m))) = false := by rw [heq]; simp
    have HE := Lib.hid heq
    clear e0 heq hl hm
    generalize getK (l.drop m) 4 = G at *
    go_enter Try.func33, Try.ntmps33
    go_wp2_with fail
    refine HG.out.mono ?_
    rintro e w' ⟨rfl, rfl⟩
    go_wp2_with fail
    refine (sum_one _ _ (l.take m) _ (PartsAt.one ht _)).mono ?_
    rintro e w1 ⟨rfl, hb⟩
    replace hb := below_boxed hb
    have ht1 := ht.below hb
    go_wp2_with fail
    refine (clone_any _ _ _ _ _ ht1 (by omega)).mono ?_
    rintro e w2 ⟨v, rfl, ho, hb2⟩
    go_wp2_with fail
    go_ret2
    exact ⟨v, by rw [E1.out]; rfl, by rw [E2.out]; exact ho.mono hb.size, hb.trans (hb2.mono hb.size)⟩
  · have e0 : openOk l = false := by unfold openOk; rw [hm, decide_eq_false heq, Bool.and_false]
    have E1 : Hid (openE l = 23) := by show _ = _; unfold openE; rw [if_neg (by omega), e0]; rfl
    have E2 : Hid (openL l = []) := by show _ = _; unfold openL; rw [e0]; rfl
    have hne : (getK (l.drop m) 4 != rnum (sumB (l.take m))) = true := by simpa using heq
    clear e0 heq hl hm
    generalize getK (l.drop m) 4 = G at *
    go_enter Try.func33, Try.ntmps33
    go_wp2_with fail
    refine HG.out.mono ?_
    rintro e w' ⟨rfl, rfl⟩
    go_wp2_with fail
    refine (sum_one _ _ (l.take m) _ (PartsAt.one ht _)).mono ?_
    rintro e w1 ⟨rfl, hb⟩
    replace hb := below_boxed hb
    go_wp2_with fail
    go_ret2
    exact ⟨.slice none 0 0, by rw [E1.out]; rfl, by rw [E2.out]; exact Owns.nil _ _ _ _, hb⟩
theorem open_any (a : Option Addr) (n c : Nat) (l : List Int) (w : World) (h : RdAt .u8 w a n c l) (hn : n ≤ 1000000) :
    Calls Try.prog 33 #[.slice a n c] w (GivesOpen l w) := by
  by_cases hs : n < 4
  · exact open_short a n c l w h hs
  · obtain ⟨m, rfl⟩ : ∃ m, n = m + 4 := ⟨n - 4, by omega⟩
    obtain ⟨b, o, rfl, _⟩ := h.cell 0 (by omega)
    exact open_long b o m c l w h (by omega)
end Go.Proofs.Ytnlhpfcepbmbfaa
