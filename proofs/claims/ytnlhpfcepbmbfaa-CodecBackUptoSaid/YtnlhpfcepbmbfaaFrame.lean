/- The contracts of codec's Frame and ReadFrame and of the document's; the chapter's example. -/
import Derived.Test.YtnlhpfcepbmbfaaWriter
import Derived.Test.YtnlhpfcepbmbfaaRCrc
import Derived.Test.YtnlhpfcepbmbfaaRGet
import Derived.Test.YtnlhpfcepbmbfaaRPut
namespace Go.Proofs.Ytnlhpfcepbmbfaa
open Go.RowKit
def headL (k : Int) (n : Nat) : List Int := k :: putL n 4
def frameL (k : Int) (l : List Int) : List Int := sealL (headL k l.length) ++ sealL l
theorem frame_len (k : Int) (l : List Int) : (frameL k l).length = 13 + l.length := by
  unfold frameL headL; rw [List.length_append, seal_len, seal_len, List.length_cons, putL_len]; omega
def frameE (l : List Int) : Int := if l.length < 9 then 21 else if openOk (l.take 9) = true then (if 1048576 < getK ((l.take 5).drop 1) 4 then 24 else if (l.length : Int) < 13 + getK ((l.take 5).drop 1) 4 then 21 else if openOk ((l.drop 9).take ((getK ((l.take 5).drop 1) 4).toNat + 4)) = true then 0 else 23) else 23
def frameP (l : List Int) : List Int := if frameE l = 0 then (l.drop 9).take (getK ((l.take 5).drop 1) 4).toNat else []
def frameK (l : List Int) : Int := if frameE l = 0 then nth l 0 else 0
def frameN (l : List Int) : Int := if frameE l = 0 then 13 + getK ((l.take 5).drop 1) 4 else 0
def GivesFrame (l : List Int) (w : World) (e : Ending) (w' : World) : Prop := ∃ v, e = .returned (.tuple #[.int .u8 (frameK l), v, .int .i64 (frameN l), .int .i64 (frameE l)]) ∧ Owns .u8 5 w' w.heap.size v (frameP l) ∧ Below w.heap.size w w'
theorem frame_bad {l : List Int} {e : Int} (h : frameE l = e) (hne : e ≠ 0) : frameP l = [] ∧ frameK l = 0 ∧ frameN l = 0 := by
  unfold frameP frameK frameN
  rw [h, if_neg hne, if_neg hne, if_neg hne]
  exact ⟨rfl, rfl, rfl⟩
theorem one_rd (w : World) (k : Int) (e : Nat) (hk : (Lit.int .u8 k).wf = true) : RdAt .u8 (w.alloc (.cells #[.int .u8 k] e)) (some ⟨w.heap.size, 0, none⟩) 1 1 [k] :=
  lit_rd w _ [k] e (0, 0) (by simp) (fun x hx => by simp at hx; subst hx; exact hk) (Below.refl _ _)
set_option maxRecDepth 100000 in
set_option maxHeartbeats 1000000 in
theorem frame_any (k : Int) (a : Option Addr) (n c : Nat) (l : List Int) (w : World) (hk : (Lit.int .u8 k).wf = true) (h : RdAt .u8 w a n c l) (hn : n ≤ 1000000) :
    Calls Try.prog 12 #[.int .u8 k, .slice a n c] w (GivesBytes (frameL k l) w) := by
  have HL := Lib.hid h.len
  go_enter Try.func12, Try.ntmps12
  go_wp2_with fail
  refine (put_any _ _ _ [k] _ _ _ (one_rd w k _ hk) (by omega) (by omega) (by omega) (by omega) (by omega)).mono ?_
  rintro e w1 ⟨r1, rfl, ho1, hb1⟩
  replace hb1 := below_boxed hb1
  replace h := h.below hb1
  obtain ⟨a1, c1, rfl⟩ := ho1.shapeN 5 (by rw [List.length_append, putL_len]; rfl)
  have hr1 := ho1.rd
  clear ho1
  go_wp2_with fail
  refine (seal_any _ _ _ _ _ hr1 (by omega)).mono ?_
  rintro e w2 ⟨r2, rfl, ho2, hb2⟩
  replace h := h.below hb2
  obtain ⟨a2, c2, rfl⟩ := ho2.shapeN 9 (by rw [seal_len, List.length_append, putL_len]; rfl)
  clear hr1
  go_wp2_with fail
  refine (seal_any _ _ _ _ _ h (by omega)).mono ?_
  rintro e w3 ⟨r3, rfl, ho3, hb3⟩
  have ho2' := ho2.below hb3
  obtain ⟨a3, c3, rfl⟩ := ho3.shapeN (n + 4) (by rw [seal_len, HL.out])
  have hr3 := ho3.rd
  have hsz := hb2.size
  have hsz3 := hb3.size
  have HX : Hid (sealL ([k] ++ putL (n : Int) (putN 4)) ++ sealL l = frameL k l) := by show _ = _; unfold frameL headL; rw [HL.out]; rfl
  generalize sealL ([k] ++ putL (n : Int) (putN 4)) = x at *
  have HL2 : Hid (x.length = 9) := by show _ = _; exact ho2'.rd.len
  go_wp2_with (at_builtin; refine app_all u8T u8I (by decide) rfl (.tmp 11) (.tmp 13) rfl _ w1.heap.size _ x rfl ho2' _ _ _ _ rfl hr3 (by rw [HL2.out]; omega) (by omega) ?_; intro v4 w4 ho4 hg4)
  go_ret
  rw [HX.out] at ho4
  have hB := (hb1.trans (hb2.mono hb1.size)).trans (hb3.mono (by have := hb1.size; omega))
  exact ⟨_, rfl, ho4.mono hb1.size, hB.trans ((hg4.below (base := w1.heap.size) (by omega) (fun g hg => (ho2'.at_base g hg).1)).mono hb1.size)⟩

set_option maxRecDepth 100000 in
set_option maxHeartbeats 2000000 in
theorem readframe_any (a : Option Addr) (n c : Nat) (l : List Int) (w : World) (h : RdAt .u8 w a n c l) (hn : n ≤ 900000) :
    Calls Try.prog 10 #[.slice a n c] w (GivesFrame l w) := by
  have hl := h.len
  have hcap := h.cap
  have hmax := h.max
  unfold maxLen at hmax
  by_cases h9 : n < 9
  · have he : frameE l = 21 := by unfold frameE; rw [if_pos (by omega)]
    have hq1 : decide ((n : Int) < 9) = true := decide_eq_true (by omega)
    obtain ⟨p1, p2, p3⟩ := frame_bad he (by omega)
    have E0 := Lib.hid he
    have E1 := Lib.hid p1
    have E2 := Lib.hid p2
    have E3 := Lib.hid p3
    clear he p1 p2 p3
    go_enter Try.func10, Try.ntmps10
    go_wp2
    refine bodyPost_ret (v := .tuple #[.int .u8 0, .slice none 0 0, .int .i64 0, .int .i64 21]) (by simp [results, Try.results10, go_sem]) rfl ?_
    unfold GivesFrame
    rw [E0.out, E1.out, E2.out, E3.out]
    exact ⟨.slice none 0 0, rfl, Owns.nil _ _ _ _, Below.refl _ _⟩
  obtain ⟨b, o, hx, _⟩ := h.cell 0 (by omega)
  subst hx
  have hq1 : decide ((n : Int) < 9) = false := decide_eq_false (by omega)
  have hc9 : 9 ≤ c := by omega
  have ht : RdAt .u8 w (some ⟨b, o, none⟩) 9 c (l.take 9) := RdAt.take h 9 (by omega)
  have hl9 : (l.take 9).length = 9 := ht.len
  by_cases hok : openOk (l.take 9) = true
  case neg =>
    rw [Bool.not_eq_true] at hok
    have he : frameE l = 23 := by unfold frameE; rw [if_neg (by omega), hok]; rfl
    have EO : Hid (openE (l.take 9) = 23) := by show _ = _; unfold openE; rw [hl9, hok]; rfl
    obtain ⟨p1, p2, p3⟩ := frame_bad he (by omega)
    have E0 := Lib.hid he
    have E1 := Lib.hid p1
    have E2 := Lib.hid p2
    have E3 := Lib.hid p3
    clear he p1 p2 p3
    go_enter Try.func10, Try.ntmps10
    go_wp2_with fail
    refine (open_any _ _ _ _ _ ht (by omega)).mono ?_
    rintro e w1 ⟨v1, hee, ho1, hb1⟩
    rw [EO.out] at hee
    subst hee
    go_wp2
    refine bodyPost_ret (v := .tuple #[.int .u8 0, .slice none 0 0, .int .i64 0, .int .i64 23]) (by simp [results, Try.results10, go_sem]) rfl ?_
    unfold GivesFrame
    rw [E0.out, E1.out, E2.out, E3.out]
    exact ⟨.slice none 0 0, rfl, Owns.nil _ _ _ _, hb1⟩
  have EO : Hid (openE (l.take 9) = 0) := by show _ = _; unfold openE; rw [hl9, hok]; rfl
  have EL : Hid (openL (l.take 9) = l.take 5) := by show _ = _; unfold openL; rw [hl9, hok, if_pos rfl, List.take_take]; rfl
  have HL5 : Hid ((l.take 5).length = 5) := by show _ = _; rw [List.length_take]; omega
  have hby : Bytes ((l.take 5).drop 1) := fun x hx => h.bytes x (List.mem_of_mem_take (List.mem_of_mem_drop hx))
  have hgk := getK_bd ((l.take 5).drop 1) 4 (fun i _ => hby.at i)
  obtain ⟨q, hq⟩ := Int.eq_ofNat_of_zero_le hgk.1
  have hq32 : q < 4294967296 := by have := hgk.2; rw [hq] at this; omega
  have HG := Lib.hid hq
  by_cases hbig : 1048576 < q
  · have he : frameE l = 24 := by unfold frameE; rw [if_neg (by omega), if_pos hok, if_pos (by rw [hq]; omega)]
    have hq2 : decide ((1048576 : Int) < q) = true := decide_eq_true (by omega)
    clear hok hq hgk
    obtain ⟨p1, p2, p3⟩ := frame_bad he (by omega)
    have E0 := Lib.hid he
    have E1 := Lib.hid p1
    have E2 := Lib.hid p2
    have E3 := Lib.hid p3
    clear he p1 p2 p3
    go_enter Try.func10, Try.ntmps10
    go_wp2_with fail
    refine (open_any _ _ _ _ _ ht (by omega)).mono ?_
    rintro e w1 ⟨v1, hee, ho1, hb1⟩
    rw [EO.out] at hee
    subst hee
    rw [EL.out] at ho1
    obtain ⟨a1, c1, rfl⟩ := ho1.shapeN 5 HL5.out
    obtain ⟨g, rfl, hgb, hgs, hc0, _⟩ := ho1.cellAt 0 (by rw [HL5.out]; omega)
    have hr1 := ho1.rd
    have hd1 : RdAt .u8 w1 (some ⟨g, 0 + 1, none⟩) 4 (c1 - 1) ((l.take 5).drop 1) := hr1.drop 1 (by omega)
    rw [Nat.zero_add] at hd1
    have hcp := hr1.cap
    have hmx := hr1.max
    unfold maxLen at hmx
    go_wp2_with fail
    refine (get4f _ _ _ _ hd1).mono ?_
    rintro e w2 ⟨hee, rfl⟩
    rw [HG.out] at hee
    subst hee
    go_wp2
    refine bodyPost_ret (v := .tuple #[.int .u8 0, .slice none 0 0, .int .i64 0, .int .i64 24]) (by simp [results, Try.results10, go_sem]) rfl ?_
    unfold GivesFrame
    rw [E0.out, E1.out, E2.out, E3.out]
    exact ⟨.slice none 0 0, rfl, Owns.nil _ _ _ _, hb1⟩
  have hq2 : decide ((1048576 : Int) < q) = false := decide_eq_false (by omega)
  by_cases hend : n < 13 + q
  · have he : frameE l = 21 := by unfold frameE; rw [if_neg (by omega), if_pos hok, if_neg (by rw [hq]; omega), if_pos (by rw [hq]; omega)]
    have hend' : (n : Int) < 13 + q := by omega
    clear hok hq hgk
    obtain ⟨p1, p2, p3⟩ := frame_bad he (by omega)
    have E0 := Lib.hid he
    have E1 := Lib.hid p1
    have E2 := Lib.hid p2
    have E3 := Lib.hid p3
    clear he p1 p2 p3
    go_enter Try.func10, Try.ntmps10
    go_wp2_with fail
    refine (open_any _ _ _ _ _ ht (by omega)).mono ?_
    rintro e w1 ⟨v1, hee, ho1, hb1⟩
    rw [EO.out] at hee
    subst hee
    rw [EL.out] at ho1
    obtain ⟨a1, c1, rfl⟩ := ho1.shapeN 5 HL5.out
    obtain ⟨g, rfl, hgb, hgs, hc0, _⟩ := ho1.cellAt 0 (by rw [HL5.out]; omega)
    have hr1 := ho1.rd
    have hd1 : RdAt .u8 w1 (some ⟨g, 0 + 1, none⟩) 4 (c1 - 1) ((l.take 5).drop 1) := hr1.drop 1 (by omega)
    rw [Nat.zero_add] at hd1
    have hcp := hr1.cap
    have hmx := hr1.max
    unfold maxLen at hmx
    go_wp2_with fail
    refine (get4f _ _ _ _ hd1).mono ?_
    rintro e w2 ⟨hee, rfl⟩
    rw [HG.out] at hee
    subst hee
    go_wp2
    refine bodyPost_ret (v := .tuple #[.int .u8 0, .slice none 0 0, .int .i64 0, .int .i64 21]) (by simp [results, Try.results10, go_sem]) rfl ?_
    unfold GivesFrame
    rw [E0.out, E1.out, E2.out, E3.out]
    exact ⟨.slice none 0 0, rfl, Owns.nil _ _ _ _, hb1⟩
  have hend' : 13 + (q : Int) ≤ n := by omega
  have hb9 : RdAt .u8 w (some ⟨b, o + 9, none⟩) (q + 4) (c - 9) ((l.drop 9).take (q + 4)) := RdAt.take (h.drop 9 (by omega)) (q + 4) (by omega)
  have hbl : ((l.drop 9).take (q + 4)).length = q + 4 := hb9.len
  by_cases hok2 : openOk ((l.drop 9).take (q + 4)) = true
  case neg =>
    have he : frameE l = 23 := by unfold frameE; rw [if_neg (by omega), if_pos hok, if_neg (by rw [hq]; omega), if_neg (by rw [hq]; omega), hq, Int.toNat_natCast, if_neg hok2]
    have EO2 : Hid (openE ((l.drop 9).take (q + 4)) = 23) := by show _ = _; unfold openE; rw [hbl, if_neg (by omega), if_neg hok2]
    clear hok hq hgk hok2
    obtain ⟨p1, p2, p3⟩ := frame_bad he (by omega)
    have E0 := Lib.hid he
    have E1 := Lib.hid p1
    have E2 := Lib.hid p2
    have E3 := Lib.hid p3
    clear he p1 p2 p3
    go_enter Try.func10, Try.ntmps10
    go_wp2_with fail
    refine (open_any _ _ _ _ _ ht (by omega)).mono ?_
    rintro e w1 ⟨v1, hee, ho1, hb1⟩
    rw [EO.out] at hee
    subst hee
    rw [EL.out] at ho1
    obtain ⟨a1, c1, rfl⟩ := ho1.shapeN 5 HL5.out
    obtain ⟨g, rfl, hgb, hgs, hc0, _⟩ := ho1.cellAt 0 (by rw [HL5.out]; omega)
    have hr1 := ho1.rd
    have hd1 : RdAt .u8 w1 (some ⟨g, 0 + 1, none⟩) 4 (c1 - 1) ((l.take 5).drop 1) := hr1.drop 1 (by omega)
    rw [Nat.zero_add] at hd1
    have hcp := hr1.cap
    have hmx := hr1.max
    unfold maxLen at hmx
    go_wp2_with fail
    refine (get4f _ _ _ _ hd1).mono ?_
    rintro e w2 ⟨hee, rfl⟩
    rw [HG.out] at hee
    subst hee
    have hb92 : RdAt .u8 w1 (some ⟨b, o + 9, none⟩) (9 + q - 5) (c - 9) ((l.drop 9).take (q + 4)) := by rw [show 9 + q - 5 = q + 4 by omega]; exact hb9.below hb1
    go_wp2_with fail
    refine (open_any _ _ _ _ _ hb92 (by omega)).mono ?_
    rintro e w3 ⟨v3, hee, ho3, hb3⟩
    rw [EO2.out] at hee
    subst hee
    replace hb1 := hb1.trans (hb3.mono hb1.size)
    go_wp2
    refine bodyPost_ret (v := .tuple #[.int .u8 0, .slice none 0 0, .int .i64 0, .int .i64 23]) (by simp [results, Try.results10, go_sem]) rfl ?_
    unfold GivesFrame
    rw [E0.out, E1.out, E2.out, E3.out]
    exact ⟨.slice none 0 0, rfl, Owns.nil _ _ _ _, hb1⟩
  have he : frameE l = 0 := by unfold frameE; rw [if_neg (by omega), if_pos hok, if_neg (by rw [hq]; omega), if_neg (by rw [hq]; omega), hq, Int.toNat_natCast, if_pos hok2]
  have EO2 : Hid (openE ((l.drop 9).take (q + 4)) = 0) := by show _ = _; unfold openE; rw [hbl, if_neg (by omega), if_pos hok2]
  have EL2 : Hid (openL ((l.drop 9).take (q + 4)) = (l.drop 9).take q) := by show _ = _; unfold openL; rw [if_pos hok2, hbl, Nat.add_sub_cancel, List.take_take]; congr 1; omega
  have E0 := Lib.hid he
  have E1 : Hid (frameP l = (l.drop 9).take q) := by show _ = _; unfold frameP; rw [if_pos he, hq, Int.toNat_natCast]
  have E2 : Hid (frameK l = nth (l.take 5) 0) := by show _ = _; unfold frameK; rw [if_pos he, nth_eq (by omega), nth_eq (by rw [List.length_take]; omega), List.getElem_take]
  have E3 : Hid (frameN l = 13 + q) := by show _ = _; unfold frameN; rw [if_pos he, hq]
  clear hok hq hgk hok2 he
  unfold GivesFrame
  rw [E0.out, E1.out, E2.out, E3.out]
  go_enter Try.func10, Try.ntmps10
  go_wp2_with fail
  refine (open_any _ _ _ _ _ ht (by omega)).mono ?_
  rintro e w1 ⟨v1, hee, ho1, hb1⟩
  rw [EO.out] at hee
  subst hee
  rw [EL.out] at ho1
  obtain ⟨a1, c1, rfl⟩ := ho1.shapeN 5 HL5.out
  obtain ⟨g, rfl, hgb, hgs, hc0, _⟩ := ho1.cellAt 0 (by rw [HL5.out]; omega)
  have hr1 := ho1.rd
  have hd1 : RdAt .u8 w1 (some ⟨g, 0 + 1, none⟩) 4 (c1 - 1) ((l.take 5).drop 1) := hr1.drop 1 (by omega)
  rw [Nat.zero_add] at hd1
  have hcp := hr1.cap
  have hmx := hr1.max
  unfold maxLen at hmx
  go_wp2_with fail
  refine (get4f _ _ _ _ hd1).mono ?_
  rintro e w2 ⟨hee, rfl⟩
  rw [HG.out] at hee
  subst hee
  have hb92 : RdAt .u8 w1 (some ⟨b, o + 9, none⟩) (9 + q - 5) (c - 9) ((l.drop 9).take (q + 4)) := by rw [show 9 + q - 5 = q + 4 by omega]; exact hb9.below hb1
  go_wp2_with fail
  refine (open_any _ _ _ _ _ hb92 (by omega)).mono ?_
  rintro e w3 ⟨v3, hee, ho3, hb3⟩
  rw [EO2.out] at hee
  subst hee
  rw [EL2.out] at ho3
  have hc3 := (hb3.cell hgs).trans hc0
  have HB := Lib.hid (hb1.trans (hb3.mono hb1.size))
  have hs1 := hb1.size
  obtain ⟨a3, c3, rfl⟩ := ho3.shapeN q (by rw [List.length_take, List.length_drop]; omega)
  go_wp2
  refine bodyPost_ret (v := .tuple #[.int .u8 (nth (l.take 5) 0), .slice a3 q c3, .int .i64 (9 + (q : Int) + 4), .int .i64 0]) (by simp [results, Try.results10, go_sem]) rfl ?_
  exact ⟨_, by rw [show 9 + (q : Int) + 4 = 13 + (q : Int) by omega], ho3.mono hs1, HB.out⟩
theorem rget4f (l : List Int) (w : World) (a : Option Addr) (c : Nat) (h : RdAt .u8 w a 4 c l) :
    Calls Try.prog 36 #[.slice a 4 c, .int .i64 4] w fun e w' => e = .returned (.tuple #[.int .u64 (getK l 4), .bool true]) ∧ w = w' := rget_any a 4 c l 4 w h

set_option maxRecDepth 100000 in
set_option maxHeartbeats 2000000 in
theorem refreadframe_any (a : Option Addr) (n c : Nat) (l : List Int) (w : World) (h : RdAt .u8 w a n c l) (hn : n ≤ 900000) :
    Calls Try.prog 11 #[.slice a n c] w (GivesFrame l w) := by
  have hl := h.len
  have hcap := h.cap
  have hmax := h.max
  unfold maxLen at hmax
  by_cases h9 : n < 9
  · have he : frameE l = 21 := by unfold frameE; rw [if_pos (by omega)]
    have hq1 : decide ((n : Int) < 9) = true := decide_eq_true (by omega)
    obtain ⟨p1, p2, p3⟩ := frame_bad he (by omega)
    have E0 := Lib.hid he
    have E1 := Lib.hid p1
    have E2 := Lib.hid p2
    have E3 := Lib.hid p3
    clear he p1 p2 p3
    go_enter Try.func11, Try.ntmps11
    go_wp2
    refine bodyPost_ret (v := .tuple #[.int .u8 0, .slice none 0 0, .int .i64 0, .int .i64 21]) (by simp [results, Try.results11, go_sem]) rfl ?_
    unfold GivesFrame
    rw [E0.out, E1.out, E2.out, E3.out]
    exact ⟨.slice none 0 0, rfl, Owns.nil _ _ _ _, Below.refl _ _⟩
  obtain ⟨b, o, hx, _⟩ := h.cell 0 (by omega)
  subst hx
  have hq1 : decide ((n : Int) < 9) = false := decide_eq_false (by omega)
  have hc9 : 9 ≤ c := by omega
  have ht : RdAt .u8 w (some ⟨b, o, none⟩) 9 c (l.take 9) := RdAt.take h 9 (by omega)
  have hl9 : (l.take 9).length = 9 := ht.len
  by_cases hok : openOk (l.take 9) = true
  case neg =>
    rw [Bool.not_eq_true] at hok
    have he : frameE l = 23 := by unfold frameE; rw [if_neg (by omega), hok]; rfl
    have EO : Hid (openE (l.take 9) = 23) := by show _ = _; unfold openE; rw [hl9, hok]; rfl
    obtain ⟨p1, p2, p3⟩ := frame_bad he (by omega)
    have E0 := Lib.hid he
    have E1 := Lib.hid p1
    have E2 := Lib.hid p2
    have E3 := Lib.hid p3
    clear he p1 p2 p3
    go_enter Try.func11, Try.ntmps11
    go_wp2_with fail
    refine (refopen_any _ _ _ _ _ ht (by omega)).mono ?_
    rintro e w1 ⟨v1, hee, ho1, hb1⟩
    rw [EO.out] at hee
    subst hee
    go_wp2
    refine bodyPost_ret (v := .tuple #[.int .u8 0, .slice none 0 0, .int .i64 0, .int .i64 23]) (by simp [results, Try.results11, go_sem]) rfl ?_
    unfold GivesFrame
    rw [E0.out, E1.out, E2.out, E3.out]
    exact ⟨.slice none 0 0, rfl, Owns.nil _ _ _ _, hb1⟩
  have EO : Hid (openE (l.take 9) = 0) := by show _ = _; unfold openE; rw [hl9, hok]; rfl
  have EL : Hid (openL (l.take 9) = l.take 5) := by show _ = _; unfold openL; rw [hl9, hok, if_pos rfl, List.take_take]; rfl
  have HL5 : Hid ((l.take 5).length = 5) := by show _ = _; rw [List.length_take]; omega
  have hby : Bytes ((l.take 5).drop 1) := fun x hx => h.bytes x (List.mem_of_mem_take (List.mem_of_mem_drop hx))
  have hgk := getK_bd ((l.take 5).drop 1) 4 (fun i _ => hby.at i)
  obtain ⟨q, hq⟩ := Int.eq_ofNat_of_zero_le hgk.1
  have hq32 : q < 4294967296 := by have := hgk.2; rw [hq] at this; omega
  have HG := Lib.hid hq
  by_cases hbig : 1048576 < q
  · have he : frameE l = 24 := by unfold frameE; rw [if_neg (by omega), if_pos hok, if_pos (by rw [hq]; omega)]
    have hq2 : decide ((1048576 : Int) < q) = true := decide_eq_true (by omega)
    clear hok hq hgk
    obtain ⟨p1, p2, p3⟩ := frame_bad he (by omega)
    have E0 := Lib.hid he
    have E1 := Lib.hid p1
    have E2 := Lib.hid p2
    have E3 := Lib.hid p3
    clear he p1 p2 p3
    go_enter Try.func11, Try.ntmps11
    go_wp2_with fail
    refine (refopen_any _ _ _ _ _ ht (by omega)).mono ?_
    rintro e w1 ⟨v1, hee, ho1, hb1⟩
    rw [EO.out] at hee
    subst hee
    rw [EL.out] at ho1
    obtain ⟨a1, c1, rfl⟩ := ho1.shapeN 5 HL5.out
    obtain ⟨g, rfl, hgb, hgs, hc0, _⟩ := ho1.cellAt 0 (by rw [HL5.out]; omega)
    have hr1 := ho1.rd
    have hd1 : RdAt .u8 w1 (some ⟨g, 0 + 1, none⟩) 4 (c1 - 1) ((l.take 5).drop 1) := hr1.drop 1 (by omega)
    rw [Nat.zero_add] at hd1
    have hcp := hr1.cap
    have hmx := hr1.max
    unfold maxLen at hmx
    go_wp2_with fail
    refine (rget4f _ _ _ _ hd1).mono ?_
    rintro e w2 ⟨hee, rfl⟩
    rw [HG.out] at hee
    subst hee
    go_wp2
    refine bodyPost_ret (v := .tuple #[.int .u8 0, .slice none 0 0, .int .i64 0, .int .i64 24]) (by simp [results, Try.results11, go_sem]) rfl ?_
    unfold GivesFrame
    rw [E0.out, E1.out, E2.out, E3.out]
    exact ⟨.slice none 0 0, rfl, Owns.nil _ _ _ _, hb1⟩
  have hq2 : decide ((1048576 : Int) < q) = false := decide_eq_false (by omega)
  by_cases hend : n < 13 + q
  · have he : frameE l = 21 := by unfold frameE; rw [if_neg (by omega), if_pos hok, if_neg (by rw [hq]; omega), if_pos (by rw [hq]; omega)]
    have hend' : (n : Int) < 13 + q := by omega
    clear hok hq hgk
    obtain ⟨p1, p2, p3⟩ := frame_bad he (by omega)
    have E0 := Lib.hid he
    have E1 := Lib.hid p1
    have E2 := Lib.hid p2
    have E3 := Lib.hid p3
    clear he p1 p2 p3
    go_enter Try.func11, Try.ntmps11
    go_wp2_with fail
    refine (refopen_any _ _ _ _ _ ht (by omega)).mono ?_
    rintro e w1 ⟨v1, hee, ho1, hb1⟩
    rw [EO.out] at hee
    subst hee
    rw [EL.out] at ho1
    obtain ⟨a1, c1, rfl⟩ := ho1.shapeN 5 HL5.out
    obtain ⟨g, rfl, hgb, hgs, hc0, _⟩ := ho1.cellAt 0 (by rw [HL5.out]; omega)
    have hr1 := ho1.rd
    have hd1 : RdAt .u8 w1 (some ⟨g, 0 + 1, none⟩) 4 (c1 - 1) ((l.take 5).drop 1) := hr1.drop 1 (by omega)
    rw [Nat.zero_add] at hd1
    have hcp := hr1.cap
    have hmx := hr1.max
    unfold maxLen at hmx
    go_wp2_with fail
    refine (rget4f _ _ _ _ hd1).mono ?_
    rintro e w2 ⟨hee, rfl⟩
    rw [HG.out] at hee
    subst hee
    go_wp2
    refine bodyPost_ret (v := .tuple #[.int .u8 0, .slice none 0 0, .int .i64 0, .int .i64 21]) (by simp [results, Try.results11, go_sem]) rfl ?_
    unfold GivesFrame
    rw [E0.out, E1.out, E2.out, E3.out]
    exact ⟨.slice none 0 0, rfl, Owns.nil _ _ _ _, hb1⟩
  have hend' : 13 + (q : Int) ≤ n := by omega
  have hb9 : RdAt .u8 w (some ⟨b, o + 9, none⟩) (q + 4) (c - 9) ((l.drop 9).take (q + 4)) := RdAt.take (h.drop 9 (by omega)) (q + 4) (by omega)
  have hbl : ((l.drop 9).take (q + 4)).length = q + 4 := hb9.len
  by_cases hok2 : openOk ((l.drop 9).take (q + 4)) = true
  case neg =>
    have he : frameE l = 23 := by unfold frameE; rw [if_neg (by omega), if_pos hok, if_neg (by rw [hq]; omega), if_neg (by rw [hq]; omega), hq, Int.toNat_natCast, if_neg hok2]
    have EO2 : Hid (openE ((l.drop 9).take (q + 4)) = 23) := by show _ = _; unfold openE; rw [hbl, if_neg (by omega), if_neg hok2]
    clear hok hq hgk hok2
    obtain ⟨p1, p2, p3⟩ := frame_bad he (by omega)
    have E0 := Lib.hid he
    have E1 := Lib.hid p1
    have E2 := Lib.hid p2
    have E3 := Lib.hid p3
    clear he p1 p2 p3
    go_enter Try.func11, Try.ntmps11
    go_wp2_with fail
    refine (refopen_any _ _ _ _ _ ht (by omega)).mono ?_
    rintro e w1 ⟨v1, hee, ho1, hb1⟩
    rw [EO.out] at hee
    subst hee
    rw [EL.out] at ho1
    obtain ⟨a1, c1, rfl⟩ := ho1.shapeN 5 HL5.out
    obtain ⟨g, rfl, hgb, hgs, hc0, _⟩ := ho1.cellAt 0 (by rw [HL5.out]; omega)
    have hr1 := ho1.rd
    have hd1 : RdAt .u8 w1 (some ⟨g, 0 + 1, none⟩) 4 (c1 - 1) ((l.take 5).drop 1) := hr1.drop 1 (by omega)
    rw [Nat.zero_add] at hd1
    have hcp := hr1.cap
    have hmx := hr1.max
    unfold maxLen at hmx
    go_wp2_with fail
    refine (rget4f _ _ _ _ hd1).mono ?_
    rintro e w2 ⟨hee, rfl⟩
    rw [HG.out] at hee
    subst hee
    have hb92 : RdAt .u8 w1 (some ⟨b, o + 9, none⟩) (13 + q - 9) (c - 9) ((l.drop 9).take (q + 4)) := by rw [show 13 + q - 9 = q + 4 by omega]; exact hb9.below hb1
    go_wp2_with fail
    refine (refopen_any _ _ _ _ _ hb92 (by omega)).mono ?_
    rintro e w3 ⟨v3, hee, ho3, hb3⟩
    rw [EO2.out] at hee
    subst hee
    replace hb1 := hb1.trans (hb3.mono hb1.size)
    go_wp2
    refine bodyPost_ret (v := .tuple #[.int .u8 0, .slice none 0 0, .int .i64 0, .int .i64 23]) (by simp [results, Try.results11, go_sem]) rfl ?_
    unfold GivesFrame
    rw [E0.out, E1.out, E2.out, E3.out]
    exact ⟨.slice none 0 0, rfl, Owns.nil _ _ _ _, hb1⟩
  have he : frameE l = 0 := by unfold frameE; rw [if_neg (by omega), if_pos hok, if_neg (by rw [hq]; omega), if_neg (by rw [hq]; omega), hq, Int.toNat_natCast, if_pos hok2]
  have EO2 : Hid (openE ((l.drop 9).take (q + 4)) = 0) := by show _ = _; unfold openE; rw [hbl, if_neg (by omega), if_pos hok2]
  have EL2 : Hid (openL ((l.drop 9).take (q + 4)) = (l.drop 9).take q) := by show _ = _; unfold openL; rw [if_pos hok2, hbl, Nat.add_sub_cancel, List.take_take]; congr 1; omega
  have E0 := Lib.hid he
  have E1 : Hid (frameP l = (l.drop 9).take q) := by show _ = _; unfold frameP; rw [if_pos he, hq, Int.toNat_natCast]
  have E2 : Hid (frameK l = nth (l.take 5) 0) := by show _ = _; unfold frameK; rw [if_pos he, nth_eq (by omega), nth_eq (by rw [List.length_take]; omega), List.getElem_take]
  have E3 : Hid (frameN l = 13 + q) := by show _ = _; unfold frameN; rw [if_pos he, hq]
  clear hok hq hgk hok2 he
  unfold GivesFrame
  rw [E0.out, E1.out, E2.out, E3.out]
  go_enter Try.func11, Try.ntmps11
  go_wp2_with fail
  refine (refopen_any _ _ _ _ _ ht (by omega)).mono ?_
  rintro e w1 ⟨v1, hee, ho1, hb1⟩
  rw [EO.out] at hee
  subst hee
  rw [EL.out] at ho1
  obtain ⟨a1, c1, rfl⟩ := ho1.shapeN 5 HL5.out
  obtain ⟨g, rfl, hgb, hgs, hc0, _⟩ := ho1.cellAt 0 (by rw [HL5.out]; omega)
  have hr1 := ho1.rd
  have hd1 : RdAt .u8 w1 (some ⟨g, 0 + 1, none⟩) 4 (c1 - 1) ((l.take 5).drop 1) := hr1.drop 1 (by omega)
  rw [Nat.zero_add] at hd1
  have hcp := hr1.cap
  have hmx := hr1.max
  unfold maxLen at hmx
  go_wp2_with fail
  refine (rget4f _ _ _ _ hd1).mono ?_
  rintro e w2 ⟨hee, rfl⟩
  rw [HG.out] at hee
  subst hee
  have hb92 : RdAt .u8 w1 (some ⟨b, o + 9, none⟩) (13 + q - 9) (c - 9) ((l.drop 9).take (q + 4)) := by rw [show 13 + q - 9 = q + 4 by omega]; exact hb9.below hb1
  go_wp2_with fail
  refine (refopen_any _ _ _ _ _ hb92 (by omega)).mono ?_
  rintro e w3 ⟨v3, hee, ho3, hb3⟩
  rw [EO2.out] at hee
  subst hee
  rw [EL2.out] at ho3
  have hc3 := (hb3.cell hgs).trans hc0
  have HB := Lib.hid (hb1.trans (hb3.mono hb1.size))
  have hs1 := hb1.size
  obtain ⟨a3, c3, rfl⟩ := ho3.shapeN q (by rw [List.length_take, List.length_drop]; omega)
  go_wp2
  refine bodyPost_ret (v := .tuple #[.int .u8 (nth (l.take 5) 0), .slice a3 q c3, .int .i64 (13 + (q : Int)), .int .i64 0]) (by simp [results, Try.results11, go_sem]) rfl ?_
  exact ⟨_, by rw [show 13 + (q : Int) = 13 + (q : Int) by omega], ho3.mono hs1, HB.out⟩
end Go.Proofs.Ytnlhpfcepbmbfaa
