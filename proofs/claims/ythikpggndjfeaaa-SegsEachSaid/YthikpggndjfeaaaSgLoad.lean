/- segs: Load. -/
import Derived.Test.YthikpggndjfeaaaSgKnow
import Derived.Test.YthikpggndjfeaaaSgBools
namespace Go.Proofs.Ythikpggndjfeaaa
open Go.RowKit
theorem TbIn.congr0 {w : World} {d mb mb2 : Nat} {L : List Ent} (h : TbIn w d mb L) (e : mb = mb2) : TbIn w d mb2 L := by rw [← e]; exact h
def loadE (b : Bool) : Ent := if b = true then KF else ent0
def loadL (l : List Bool) : List Ent := l.map loadE
/-- When j of them have been looked at. -/
def loadP (l : List Bool) (j : Nat) : List Ent := (l.take j).map loadE ++ List.replicate (l.length - j) ent0
theorem loadP_len {l : List Bool} {j : Nat} (h : j ≤ l.length) : (loadP l j).length = l.length := by
  unfold loadP
  rw [List.length_append, List.length_map, List.length_take, List.length_replicate]
  omega
theorem loadP_end (l : List Bool) : loadP l l.length = loadL l := by
  unfold loadP loadL
  rw [List.take_length, Nat.sub_self, List.replicate_zero, List.append_nil]
theorem loadP_next {l : List Bool} {j : Nat} (h : j < l.length) : setE (loadP l j) j (loadE (l.getD j false)) = loadP l (j + 1) := by
  unfold setE loadP
  rw [Int.toNat_natCast, List.set_append_right _ _ (by rw [List.length_map, List.length_take]; omega), List.length_map, List.length_take, show j - min j l.length = 0 by omega]
  obtain ⟨m, hm⟩ : ∃ m, l.length - j = m + 1 := ⟨l.length - j - 1, by omega⟩
  rw [hm, List.replicate_succ, List.set_cons_zero, show l.length - (j + 1) = m by omega, List.take_add_one, List.getElem?_eq_getElem h, List.map_append, List.append_assoc]
  rw [show l.getD j false = l[j] by simp [h]]
  rfl
theorem loadP_same {l : List Bool} {j : Nat} (h : j < l.length) (hf : l.getD j false = false) : loadP l j = loadP l (j + 1) := by
  rw [← loadP_next h, hf]
  unfold setE loadP
  rw [Int.toNat_natCast, List.set_append_right _ _ (by rw [List.length_map, List.length_take]; omega), List.length_map, List.length_take, show j - min j l.length = 0 by omega]
  obtain ⟨m, hm⟩ : ∃ m, l.length - j = m + 1 := ⟨l.length - j - 1, by omega⟩
  rw [hm, List.replicate_succ, List.set_cons_zero]
  rfl
set_option linter.unusedSimpArgs false in
set_option linter.unusedVariables false in
set_option maxRecDepth 100000 in
set_option maxHeartbeats 2000000 in
theorem load_no (a : Option Addr) (n c : Nat) (w : World) (h : n < 1 ∨ 65536 < n) : Calls Try.prog 16 #[.slice a n c] w fun e w' => e = .returned (.tuple #[.pointer none, .int .i64 1]) ∧ Below w.heap.size w w' := by
  go_enter Try.func16, Try.ntmps16
  go_wp2_with fail
  refine (new_no (n : Int) w (by omega)).mono ?_
  rintro e w1 ⟨rfl, rfl⟩
  go_wp2_with fail
  go_ret2
  exact ⟨rfl, Below.refl _ _⟩
set_option linter.unusedSimpArgs false in
set_option linter.unusedVariables false in
set_option maxRecDepth 100000 in
set_option maxHeartbeats 2000000 in
theorem load_any (a : Option Addr) (n c : Nat) (l : List Bool) (w : World) (h : RdB w a n c l) (h1 : 1 ≤ n) (h2 : n ≤ 65536) :
    Calls Try.prog 16 #[.slice a n c] w fun e w' => ∃ d mb, e = .returned (.tuple #[.pointer (some ⟨d, 0, none⟩), .int .i64 0]) ∧ SgW w w' d mb (loadL l) := by
  have HL := Lib.hid h
  clear h
  go_enter Try.func16, Try.ntmps16
  go_wp2_with fail
  refine (new_any n w h1 h2).mono ?_
  rintro e w1 ⟨rfl, ht, hb⟩
  have S1 := SgW.made (Below.refl w.heap.size w) ht hb
  obtain ⟨d, hd⟩ : ∃ d, w.heap.size + 1 = d := ⟨_, rfl⟩
  obtain ⟨mb, hmb⟩ : ∃ mb, w.heap.size = mb := ⟨_, rfl⟩
  have S2 : Hid (SgW w w1 d mb (loadP l 0)) := by
    have e : loadP l 0 = List.replicate n ent0 := by unfold loadP; rw [HL.out.len]; rfl
    rw [e]
    show SgW w w1 d mb _
    rw [← hd]
    have := S1
    exact ⟨this.t.congr0 hmb, this.b, this.d0, by omega⟩
  rw [hd]
  clear S1 ht hb hd hmb
  go_wp2_with fail
  go_loopw [6, 7, 19] (fun _ _ i wr => ∃ j : Nat, j ≤ n ∧ i = .int .i64 j ∧ Hid (SgW w wr d mb (loadP l j))) (fun _ _ i _ => n - (intOf i).toNat)
  case atStart => exact ⟨0, by omega, rfl, S2⟩
  case round =>
    clear S2
    obtain ⟨j, hj, rfl, S⟩ := hrel
    by_cases hjn : j < n
    · obtain ⟨g, o, ea, hc⟩ := (HL.out.below S.out.b).cell j hjn
      subst ea
      have hjl : j < l.length := by rw [HL.out.len]; exact hjn
      have hin : inE (loadP l j) j = true := inE_of ⟨by omega, by rw [loadP_len (Nat.le_of_lt hjl)]; omega⟩
      have c1 := S.out.t.c1
      obtain ⟨w2, hput, htb, hgr⟩ := S.out.t.put j KF hin (by decide) ⟨fun q => absurd q (by decide), by decide⟩
      have hput2 : (Instr.mapUpdate 57 (.map (some mb)) (.agg #[.int .i64 (j : Int)]) (.agg #[.int .i64 2, .int .i64 0, .int .i64 0])).run Try.prog wr = .ok () w2 := hput
      cases hv : l.getD j false with
      | true =>
        rw [hv] at hc
        have e := loadP_next hjl
        rw [hv] at e
        have e' : setE (loadP l j) j KF = loadP l (j + 1) := e
        rw [e'] at htb
        have S3 := Lib.hid (S.out.step htb hgr)
        clear e e' htb hgr hv hin hput S
        go_wp2_with fail
        go_roundw
        case rel => exact ⟨j + 1, by omega, by go_num, S3⟩
        case measure => simp [intOf] <;> omega
      | false =>
        rw [hv] at hc
        have S3 : Hid (SgW w wr d mb (loadP l (j + 1))) := by rw [← loadP_same hjl hv]; exact S
        clear htb hgr hv hin hput hput2 S
        go_wp2_with fail
        go_roundw
        case rel => exact ⟨j + 1, by omega, by go_num, S3⟩
        case measure => simp [intOf] <;> omega
    · obtain rfl : j = n := by omega
      have S3 : Hid (SgW w wr d mb (loadL l)) := by
        have e := loadP_end l
        rw [HL.out.len] at e
        rw [← e]
        exact S
      clear S
      go_wp2_with fail
      go_ret2
      exact ⟨d, mb, rfl, S3.out⟩
end Go.Proofs.Ythikpggndjfeaaa
