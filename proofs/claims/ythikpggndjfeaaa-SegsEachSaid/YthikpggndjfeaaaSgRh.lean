/- segs: the document's Add, Release, Load. -/
import Derived.Test.YthikpggndjfeaaaSgRg
import Derived.Test.YthikpggndjfeaaaSgLoad
namespace Go.Proofs.Ythikpggndjfeaaa
open Go.RowKit
set_option linter.unusedSimpArgs false in
set_option linter.unusedVariables false in
set_option maxRecDepth 100000 in
set_option maxHeartbeats 4000000 in
theorem refadd_any (d g : Nat) (L : List Ent) (k n : Int) (w : World) (h : RtIn w d g L) :
    Calls Try.prog 37 #[.pointer (some ⟨d, 0, none⟩), .int .i64 k, .int .i64 n] w fun e w' => e = .returned (.int .i64 (addX L k n)) ∧ RtIn w' d g (addS L k n) ∧ w.grownBy w' (some g) := by
  have HI := Lib.hid (is_any d g L k w h)
  cases hi : inE L k with
  | false =>
    have E1 := Lib.hid (show addX L k n = 2 by unfold addX; rw [hi]; rfl)
    have E3 := Lib.hid (show addS L k n = L by unfold addS; rw [hi]; rfl)
    rw [hi] at HI
    have H := Lib.hid h
    clear hi h
    go_enter Try.func37, Try.ntmps37
    go_wp2_with fail
    refine HI.out.mono ?_
    rintro e w' ⟨rfl, rfl⟩
    go_wp2
    go_ret
    exact ⟨by rw [E1.out]; rfl, by rw [E3.out]; exact H.out, World.grownBy.refl _ _⟩
  | true =>
    obtain ⟨i1, i2⟩ := inE_yes hi
    obtain ⟨m, rfl⟩ := Int.eq_ofNat_of_zero_le i1
    have hm : m < L.length := by omega
    have c0 := h.c0
    have H := Lib.hid h
    rw [hi] at HI
    obtain ⟨x0, x1, x2⟩ := h.get m hm
    have hf := h.frz
    have hok := getE_ok h.ok (m : Int)
    have hX : addX L m n = if (getE L m).st = 0 then 9 else if n < - (getE L m).us ∨ 1073741824 - (getE L m).us < n then 1 else 0 := by unfold addX; rw [if_pos hi]
    have hS : addS L m n = if (getE L m).st = 0 then L else if n < - (getE L m).us ∨ 1073741824 - (getE L m).us < n then L else setE L m ⟨(getE L m).st, (getE L m).us + n, (getE L m).ep⟩ := by unfold addS; rw [if_pos hi]
    have hset := fun (hh : (getE L m).st ≠ 0) (h9 : 0 ≤ (getE L m).us + n ∧ (getE L m).us + n ≤ 1073741824) => h.set m 2 ⟨(getE L m).st, (getE L m).us + n, (getE L m).ep⟩ (.int .i64 ((getE L m).us + n)) hm (by omega) rfl (set_ok h.ok m ⟨fun q => absurd q hh, h9⟩)
    obtain ⟨E, hE⟩ : ∃ E, getE L m = E := ⟨_, rfl⟩
    rw [hE] at hX hS hok x0 x1 x2 hset
    obtain ⟨s, u, p⟩ := E
    dsimp only at hX hS x0 x1 x2 hset
    obtain ⟨hu1, hu2⟩ := hok.us
    replace hu1 : 0 ≤ u := hu1
    replace hu2 : u ≤ 1073741824 := hu2
    have wr1 : IntKind.i64.wrap (-u) = -u := IntWalk.i64_in _ (by omega)
    have wr0 : IntKind.i64.wrap (0 - u) = -u := by rw [Int.zero_sub]; exact wr1
    have wr2 : IntKind.i64.wrap (1073741824 - u) = 1073741824 - u := IntWalk.i64_in _ (by omega)
    obtain ⟨N, hN⟩ : ∃ N, L.length = N := ⟨_, rfl⟩
    rw [hN] at c0 hm
    by_cases h0 : s = 0
    · rw [if_pos h0] at hX hS
      subst h0
      have E1 := Lib.hid hX
      have E3 := Lib.hid hS
      clear hX hS hok hE i1 i2 hi hN h hset
      go_enter Try.func37, Try.ntmps37
      go_wp2_with fail
      refine HI.out.mono ?_
      rintro e w' ⟨rfl, rfl⟩
      go_wp2
      go_ret
      exact ⟨by rw [E1.out]; rfl, by rw [E3.out]; exact H.out, World.grownBy.refl _ _⟩
    have d0 : (s == 0) = false := by simpa using h0
    by_cases hb : n < -u ∨ 1073741824 - u < n
    · rw [if_neg h0, if_pos hb] at hX hS
      have E1 := Lib.hid hX
      have E3 := Lib.hid hS
      clear hX hS hok hE i1 i2 hi hN h hset h0
      by_cases hb1 : n < -u
      · have d1 : decide (n < -u) = true := decide_eq_true hb1
        clear hb hb1
        go_enter Try.func37, Try.ntmps37
        go_wp2_with fail
        refine HI.out.mono ?_
        rintro e w' ⟨rfl, rfl⟩
        go_wp2
        go_ret
        exact ⟨by rw [E1.out]; rfl, by rw [E3.out]; exact H.out, World.grownBy.refl _ _⟩
      · have d1 : decide (n < -u) = false := decide_eq_false hb1
        have d2 : decide (1073741824 - u < n) = true := decide_eq_true (by omega)
        clear hb hb1
        go_enter Try.func37, Try.ntmps37
        go_wp2_with fail
        refine HI.out.mono ?_
        rintro e w' ⟨rfl, rfl⟩
        go_wp2
        go_ret
        exact ⟨by rw [E1.out]; rfl, by rw [E3.out]; exact H.out, World.grownBy.refl _ _⟩
    · rw [if_neg h0, if_neg hb] at hX hS
      obtain ⟨r1, r2⟩ := hset h0 ⟨by omega, by omega⟩
      rw [← hS] at r1
      have E1 := Lib.hid hX
      have R1 := Lib.hid r1
      have R2 := Lib.hid r2
      have d1 : decide (n < -u) = false := decide_eq_false (by omega)
      have d2 : decide (1073741824 - u < n) = false := decide_eq_false (by omega)
      have wr3 : IntKind.i64.wrap (u + n) = u + n := IntWalk.i64_in _ (by omega)
      clear hX hS hok hE i1 i2 hi hN h hset h0 hb r1 r2
      go_enter Try.func37, Try.ntmps37
      go_wp2_with fail
      refine HI.out.mono ?_
      rintro e w' ⟨rfl, rfl⟩
      go_wp2
      go_ret
      exact ⟨by rw [E1.out]; rfl, R1.out, R2.out⟩
/-- When i segments have been looked at. -/
def relP (L : List Ent) (p : Int) (i : Nat) : List Ent := (L.take i).map (fun e => if goes p e = true then ent0 else e) ++ L.drop i
def relI (L : List Ent) (p : Int) (i : Nat) : List Int := ((List.range i).filter fun (k : Nat) => goes p (getE L (k : Int))).map Int.ofNat
theorem relP_len (L : List Ent) (p : Int) (i : Nat) : (relP L p i).length = L.length := by
  unfold relP
  rw [List.length_append, List.length_map, List.length_take, List.length_drop]
  omega
theorem relP_at {L : List Ent} {p : Int} {i : Nat} (h : i < L.length) : getE (relP L p i) i = getE L i := by
  rw [getE_nat, getE_nat]
  unfold relP
  rw [List.getElem?_append_right (by rw [List.length_map, List.length_take]; omega), List.length_map, List.length_take, show i - min i L.length = 0 by omega, List.getElem?_drop, Nat.add_zero]
theorem relP_next {L : List Ent} {p : Int} {i : Nat} (h : i < L.length) : relP L p (i + 1) = if goes p (getE L i) = true then setE (relP L p i) i ent0 else relP L p i := by
  have e : getE L i = L[i] := by rw [getE_nat, List.getElem?_eq_getElem h]; rfl
  have hd : L.drop i = L[i] :: L.drop (i + 1) := List.drop_eq_getElem_cons h
  have ht : relP L p (i + 1) = (L.take i).map (fun e => if goes p e = true then ent0 else e) ++ (if goes p L[i] = true then ent0 else L[i]) :: L.drop (i + 1) := by
    unfold relP
    rw [List.take_add_one, List.getElem?_eq_getElem h, List.map_append, List.append_assoc]
    rfl
  rw [ht, e]
  split
  · unfold setE relP
    rw [Int.toNat_natCast, List.set_append_right _ _ (by rw [List.length_map, List.length_take]; omega), List.length_map, List.length_take, show i - min i L.length = 0 by omega, hd, List.set_cons_zero]
  · unfold relP
    rw [hd]
theorem relP_ok {L : List Ent} (h : LOk L) (p : Int) (i : Nat) : LOk (relP L p i) := by
  refine ⟨by rw [relP_len]; exact h.n, fun e he => ?_⟩
  unfold relP at he
  rcases List.mem_append.1 he with h1 | h1
  · obtain ⟨x, hx, rfl⟩ := List.mem_map.1 h1
    split
    · exact ent0_ok
    · exact h.all x (List.mem_of_mem_take hx)
  · exact h.all e (List.mem_of_mem_drop h1)
theorem relI_next (L : List Ent) (p : Int) (i : Nat) : relI L p (i + 1) = if goes p (getE L i) = true then relI L p i ++ [(i : Int)] else relI L p i := by
  unfold relI
  rw [List.range_succ, List.filter_append, List.map_append]
  by_cases hg : goes p (getE L i) = true
  · rw [if_pos hg]
    simp [hg]
  · rw [if_neg hg]
    simp [hg]
theorem relI_le (L : List Ent) (p : Int) (i : Nat) : (relI L p i).length ≤ i := by
  unfold relI
  rw [List.length_map]
  have := List.length_filter_le (fun (k : Nat) => goes p (getE L (k : Int))) (List.range i)
  rw [List.length_range] at this
  exact this
/-- A segment is made free: its three cells. -/
theorem RtIn.wipe {w : World} {d g : Nat} {L : List Ent} (h : RtIn w d g L) (k : Nat) (hk : k < L.length) :
    RtIn (((w.setCell ⟨g, k * 3, none⟩ (.int .i64 0)).setCell ⟨g, k * 3 + 1, none⟩ (.int .i64 0)).setCell ⟨g, k * 3 + 2, none⟩ (.int .i64 0)) d g (setE L k ent0) ∧ w.grownBy (((w.setCell ⟨g, k * 3, none⟩ (.int .i64 0)).setCell ⟨g, k * 3 + 1, none⟩ (.int .i64 0)).setCell ⟨g, k * 3 + 2, none⟩ (.int .i64 0)) (some g) := by
  have e : L[k]? = some (L[k]) := List.getElem?_eq_getElem hk
  have hg := grown_one (grown_one (cell_grown1 w g (k * 3) (.int .i64 0)) (cell_grown1 _ g (k * 3 + 1) (.int .i64 0))) (cell_grown1 _ g (k * 3 + 2) (.int .i64 0))
  refine ⟨⟨?_, ?_, set_ok h.ok k ent0_ok, h.ne⟩, hg⟩
  · rw [hg.block d h.lt (fun q => h.ne (by injection q)), h.row, set_len]
  · have s1 := rc_set L k 0 _ ⟨0, (L[k]).us, (L[k]).ep⟩ (.int .i64 0) e (by omega) rfl
    have e1 : (L.set k ⟨0, (L[k]).us, (L[k]).ep⟩)[k]? = some ⟨0, (L[k]).us, (L[k]).ep⟩ := List.getElem?_set_self hk
    have s2 := rc_set _ k 1 _ ⟨0, (L[k]).us, 0⟩ (.int .i64 0) e1 (by omega) rfl
    have e2 : ((L.set k ⟨0, (L[k]).us, (L[k]).ep⟩).set k ⟨0, (L[k]).us, 0⟩)[k]? = some ⟨0, (L[k]).us, 0⟩ := List.getElem?_set_self (by rw [List.length_set]; exact hk)
    have s3 := rc_set _ k 2 _ ⟨0, 0, 0⟩ (.int .i64 0) e2 (by omega) rfl
    rw [heap_setCell_same _ g (k * 3 + 2) _ _ _ (heap_setCell_same _ g (k * 3 + 1) _ _ _ (heap_setCell_same w g (k * 3) _ _ _ h.seg))]
    unfold setE
    rw [Int.toNat_natCast]
    have hs : L.set k ent0 = ((L.set k ⟨0, (L[k]).us, (L[k]).ep⟩).set k ⟨0, (L[k]).us, 0⟩).set k ⟨0, 0, 0⟩ := by rw [List.set_set, List.set_set]; rfl
    rw [hs, ← s3, ← s2, ← s1]
    simp
set_option linter.unusedSimpArgs false in
set_option linter.unusedVariables false in
set_option maxRecDepth 100000 in
set_option maxHeartbeats 4000000 in
theorem refrelease_any (d g : Nat) (L : List Ent) (p : Int) (w : World) (h : RtIn w d g L) :
    Calls Try.prog 36 #[.pointer (some ⟨d, 0, none⟩), .int .i64 p] w fun e w' => ∃ v, e = .returned v ∧ Owns .i64 3 w' w.heap.size v (relL L p) ∧ RtIn w' d g (relS L p) ∧ w.grownBy w' (some g) := by
  have H := Lib.hid h
  have hd := h.lt
  have hg0 := h.lt2
  have hn2 := h.ok.n
  obtain ⟨n, hn⟩ : ∃ n, L.length = n := ⟨_, rfl⟩
  rw [hn] at hn2
  have HN := Lib.hid hn
  have S0 : Hid (RtIn w d g (relP L p 0) ∧ Owns .i64 3 w w.heap.size (.slice none 0 0) (relI L p 0) ∧ w.grownBy w (some g)) := Lib.hid ⟨h, Owns.nil _ _ _ _, World.grownBy.refl _ _⟩
  clear h hn
  go_enter Try.func36, Try.ntmps36
  go_wp2_with fail
  go_loopw [5, 6] (fun v i wr => ∃ k : Nat, k ≤ n ∧ i = .int .i64 k ∧ Hid (RtIn wr d g (relP L p k) ∧ Owns .i64 3 wr w.heap.size v (relI L p k) ∧ w.grownBy wr (some g))) (fun _ i _ => n - (intOf i).toNat)
  case atStart => exact ⟨0, by omega, rfl, S0⟩
  case round =>
    clear S0
    obtain ⟨k, hk, rfl, S⟩ := hrel
    have c0 := S.out.1.c0
    rw [relP_len, HN.out] at c0
    by_cases hkn : k < n
    · have hkl : k < L.length := by rw [HN.out]; exact hkn
      have hkp : k < (relP L p k).length := by rw [relP_len]; exact hkl
      obtain ⟨x0, x1, x2⟩ := S.out.1.get k hkp
      rw [relP_at hkl] at x0 x1 x2
      have hf := S.out.1.frz
      have hP := relP_next (p := p) hkl
      have hI := relI_next L p k
      have hgo : goes p (getE L k) = (decide ((getE L k).st = 3) && decide ((getE L k).ep ≤ p)) := rfl
      obtain ⟨w1', w2'⟩ := S.out.1.wipe k hkp
      obtain ⟨E, hE⟩ : ∃ E, getE L k = E := ⟨_, rfl⟩
      rw [hE] at x0 x1 x2 hP hI hgo
      obtain ⟨st, us, ep⟩ := E
      dsimp only at x0 x1 x2 hgo
      have HW1 := Lib.hid w1'
      have HW2 := Lib.hid w2'
      clear w1' w2' hE
      by_cases h3 : st = 3
      rotate_left
      · have d3 : (st == 3) = false := by simpa using h3
        rw [decide_eq_false h3, Bool.false_and] at hgo
        rw [hgo, if_neg (by decide)] at hP hI
        have S2 : Hid (RtIn wr d g (relP L p (k + 1)) ∧ Owns .i64 3 wr w.heap.size u5 (relI L p (k + 1)) ∧ w.grownBy wr (some g)) := by rw [hP, hI]; exact S
        clear hP hI hgo h3 hkl hkp
        go_wp2
        go_roundw
        case rel => exact ⟨k + 1, by omega, by go_num, S2⟩
        case measure => simp [intOf] <;> omega
      subst h3
      by_cases h4 : ep ≤ p
      rotate_left
      · have d4 : decide (ep ≤ p) = false := decide_eq_false h4
        rw [decide_eq_false h4, Bool.and_false] at hgo
        rw [hgo, if_neg (by decide)] at hP hI
        have S2 : Hid (RtIn wr d g (relP L p (k + 1)) ∧ Owns .i64 3 wr w.heap.size u5 (relI L p (k + 1)) ∧ w.grownBy wr (some g)) := by rw [hP, hI]; exact S
        clear hP hI hgo h4 hkl hkp
        go_wp2
        go_roundw
        case rel => exact ⟨k + 1, by omega, by go_num, S2⟩
        case measure => simp [intOf] <;> omega
      · have d4 : decide (ep ≤ p) = true := decide_eq_true h4
        rw [decide_eq_true h4] at hgo
        rw [hgo, if_pos (by rfl)] at hP hI
        rw [← hP] at HW1
        have HII := Lib.hid hI
        have OW := Lib.hid (S.out.2.1.grown HW2.out (fun q hq e => by have := (S.out.2.1.at_base q hq).1; injection e with e; omega))
        have HSZ : Hid (w.heap.size ≤ wr.heap.size) := S.out.2.2.size
        have HFEW := Lib.hid (relI_le L p k)
        clear hP hI hgo h4 hkl hkp
        go_wp2_with (at_builtin; refine app_one i64Ts i64Is (by decide) rfl (.tmp 44) (.tmp 46) rfl _ w.heap.size _ (relI L p k) rfl OW.out _ (by show Value.slice _ 1 1 = _; simp) (WalkArith.wf_i64 ⟨by omega, by omega⟩) (by have := HFEW.out; omega) (Nat.le_trans HSZ.out HW2.out.size) ?_; intro x3 w3 ho3 hg3)
        rw [← HII.out] at ho3
        have S2 : Hid (RtIn w3 d g (relP L p (k + 1)) ∧ Owns .i64 3 w3 w.heap.size x3 (relI L p (k + 1)) ∧ w.grownBy w3 (some g)) := by
          have hroom := fun q hq => (OW.out.at_base q hq).1
          exact Lib.hid ⟨HW1.out.grown hg3.1 (fun e => by have := hroom d e.symm; omega) (fun e => by have := hroom g e.symm; omega), ho3, World.grownBy.andThen (grown_one S.out.2.2 HW2.out) hg3.1 (fun j e => .inl (hroom j e))⟩
        clear ho3 hg3
        go_wp2
        go_roundw
        case rel => exact ⟨k + 1, by omega, by go_num, S2⟩
        case measure => simp [intOf] <;> omega
    · obtain rfl : k = n := by omega
      have e1 : relP L p k = relS L p := by unfold relP relS; rw [List.take_of_length_le (by rw [HN.out]; exact Nat.le_refl _), List.drop_of_length_le (by rw [HN.out]; exact Nat.le_refl _), List.append_nil]
      have e2 : relI L p k = relL L p := by unfold relI relL; rw [HN.out]
      rw [e1, e2] at S
      clear e1 e2
      go_wp2
      go_ret
      exact ⟨_, rfl, S.out.2.1, S.out.1, S.out.2.2⟩
end Go.Proofs.Ythikpggndjfeaaa
