/- segs: Fulls (by Each). -/
import Derived.Test.YthikpggndjfeaaaSgKnow
import Derived.Test.YthikpggndjfeaaaStructs
import Derived.OwnWalk
namespace Go.Proofs.Ythikpggndjfeaaa
open Go.RowKit
def bc (b : Bool) : List Value := [.bool b]
theorem bcC : Cellular bc 1 := ⟨fun _ => rfl, fun x u hu => by
  simp only [bc, List.mem_cons, List.not_mem_nil, or_false] at hu
  subst hu
  rfl, by decide⟩
set_option maxRecDepth 100000 in
theorem boolI : (Try.prog.info? 4).map (fun i => (i.zero, i.size, i.bytes)) = some (some (.bool false), 1, 1) := by kernel_rfl
set_option maxRecDepth 100000 in
theorem boolsT : Try.prog.underlying 38 = some (.slice 4) := Try.underlying38
set_option linter.unusedSimpArgs false in
set_option linter.unusedVariables false in
set_option maxRecDepth 100000 in
set_option maxHeartbeats 2000000 in
theorem fulls_fn (k t u : Int) (ob : Nat) (v : Value) (M : List Bool) (w : World) (ho : w.heap[ob]? = some (.cells #[v] 38 (0, 0))) (hown : OwnsS bc 1 4 w (ob + 1) v M) (hl : M.length ≤ 100000) :
    Calls Try.prog 40 #[.int .i64 k, .int .i64 t, .int .i64 u, .pointer (some ⟨ob, 0, none⟩)] w fun e w' => e = .returned (.bool true) ∧ ∃ v', w'.heap[ob]? = some (.cells #[v'] 38 (0, 0)) ∧ OwnsS bc 1 4 w' (ob + 1) v' (M ++ [t != 0]) ∧ Below ob w w' := by
  have c1 : w.cell? ⟨ob, 0, none⟩ = some v := cell_of_row w ob 0 _ _ _ ho
  have HO := Lib.hid ho
  have HW := Lib.hid hown
  have hlt : ob < w.heap.size := (Array.getElem?_eq_some_iff.1 ho).1
  clear ho hown
  go_enter Try.func40, Try.ntmps40
  go_wp2_with (at_builtin; refine appS_one bcC boolsT boolI rfl (by decide) rfl (.tmp 8) (.tmp 11) rfl _ (ob + 1) v M rfl (HW.out.alloc _) w.heap.size 1 (t != 0) rfl (heap_alloc_new w _) (by omega) (by simp; omega) ?_; intro x3 w3 ho3 hg3; obtain ⟨xa, xc, rfl⟩ := ho3.shapeN (M.length + 1) (by simp); have hrow3 : w3.heap[ob]? = some (.cells #[v] 38 (0, 0)) := (hg3.1.block ob (by simp; omega) (fun e => by have := (HW.out.at_base ob e.symm).1; omega)).trans (row_keep HO.out ((Below.refl _ _).alloc (Nat.le_refl _) _)); have hf3 := frozen_of_row w3 ob 0 _ _ hrow3; have hc3 := cell_of_row w3 ob 0 _ _ _ hrow3)
  go_ret
  have hst := heap_setCell_same w3 ob 0 _ _ (.slice xa (M.length + 1) xc) hrow3
  have hgg := cell_grown1 w3 ob 0 (.slice xa (M.length + 1) xc)
  have hb3 : Below ob w w3 := ((Below.refl ob w).alloc (by omega) _).grown hg3.1 (by simp; omega) (fun q e => by have := (HW.out.at_base q e).1; omega)
  refine ⟨rfl, _, hst, ho3.grown hgg (fun q hq e => by have := (ho3.at_base q hq).1; injection e with e; omega), hb3.grown hgg (by have := hg3.1.size; simp at this; omega) (fun q e => by injection e with e; omega)⟩
set_option linter.unusedSimpArgs false in
set_option linter.unusedVariables false in
set_option maxRecDepth 100000 in
set_option maxHeartbeats 2000000 in
theorem each_fulls (d mb ob : Nat) (L : List Ent) (w : World) (h : TbIn w d mb L) (ho : w.heap[ob]? = some (.cells #[.slice none 0 0] 38 (0, 0))) (n1 : d < ob) (n2 : mb < ob) :
    Calls Try.prog 20 #[.pointer (some ⟨d, 0, none⟩), .func (.func 40) #[] #[.pointer (some ⟨ob, 0, none⟩)]] w fun e w' => e = .returned (.tuple #[]) ∧ ∃ v', w'.heap[ob]? = some (.cells #[v'] 38 (0, 0)) ∧ OwnsS bc 1 4 w' (ob + 1) v' (L.map fun e => e.st != 0) ∧ Below ob w w' := by
  have H := Lib.hid h
  have c0 := h.c0
  obtain ⟨n, hnl⟩ : ∃ n, L.length = n := ⟨_, rfl⟩
  have hn2 := h.ok.n
  rw [hnl] at c0 hn2
  have HNL := Lib.hid hnl
  have S0 : Hid (∃ v', w.heap[ob]? = some (.cells #[v'] 38 (0, 0)) ∧ OwnsS bc 1 4 w (ob + 1) v' ((L.take 0).map fun e => e.st != 0) ∧ Below ob w w) := Lib.hid ⟨_, ho, OwnsS.nil _ _ _ _ _, Below.refl _ _⟩
  clear h ho hnl
  go_enter Try.func20, Try.ntmps20
  go_wp2_with fail
  go_loopw [4, 9] (fun _ i wr => ∃ k : Nat, k ≤ n ∧ i = .int .i64 k ∧ Hid (∃ v', wr.heap[ob]? = some (.cells #[v'] 38 (0, 0)) ∧ OwnsS bc 1 4 wr (ob + 1) v' ((L.take k).map fun e => e.st != 0) ∧ Below ob w wr)) (fun _ i _ => n - (intOf i).toNat)
  case atStart => exact ⟨0, by omega, rfl, S0⟩
  case round =>
    clear S0 c0
    obtain ⟨k, hk, rfl, S⟩ := hrel
    obtain ⟨v, s1, s2, s3⟩ := S.out
    have hlow : ∀ x, x < ob → x < w.heap.size → wr.heap[x]? = w.heap[x]? := fun x hx _ => s3.block x hx
    have T : Hid (TbIn wr d mb L) := Lib.hid ⟨(s3.block d n1).trans H.out.row, H.out.map.at (s3.block mb n2), H.out.ok⟩
    have S1 := Lib.hid s1
    have S2 := Lib.hid s2
    have S3 := Lib.hid s3
    clear s1 s2 s3 S hlow
    by_cases hkn : k < n
    · have hkl : k < L.length := by rw [HNL.out]; exact hkn
      have hin : inE L k = true := inE_of ⟨by omega, by omega⟩
      have HST := Lib.hid (state_any d mb L k wr T.out)
      rw [show stE L k = (getE L k).st by unfold stE; rw [if_pos hin]] at HST
      have HUS := Lib.hid (used_any d mb L k wr T.out (WalkArith.wf_i64 ⟨by omega, by omega⟩))
      have hnx : (L.take (k + 1)).map (fun e : Ent => e.st != 0) = (L.take k).map (fun e => e.st != 0) ++ [(getE L k).st != 0] := by
        rw [List.take_add_one, List.getElem?_eq_getElem hkl, List.map_append, getE_nat, List.getElem?_eq_getElem hkl]
        rfl
      obtain ⟨E, hE⟩ : ∃ E, getE L k = E := ⟨_, rfl⟩
      rw [hE] at hnx HST HUS
      obtain ⟨st, us, ep⟩ := E
      dsimp only at hnx HST HUS
      have HF := Lib.hid (fulls_fn k st us ob v _ wr S1.out S2.out (by rw [List.length_map, List.length_take]; omega))
      have HNX := Lib.hid hnx
      clear hin hnx hE hkl
      go_wp2_with fail
      refine HST.out.mono ?_
      rintro e w' ⟨rfl, rfl⟩
      go_wp2_with fail
      refine HUS.out.mono ?_
      rintro e w' ⟨rfl, rfl⟩
      go_wp2_with fail
      refine HF.out.mono ?_
      rintro e w2 ⟨rfl, v2, q1, q2, q3⟩
      rw [← HNX.out] at q2
      have SN : Hid (∃ v', w2.heap[ob]? = some (.cells #[v'] 38 (0, 0)) ∧ OwnsS bc 1 4 w2 (ob + 1) v' ((L.take (k + 1)).map fun e => e.st != 0) ∧ Below ob w w2) := Lib.hid ⟨v2, q1, q2, S3.out.trans q3⟩
      clear q1 q2 q3
      go_wp2_with fail
      go_roundw
      case rel => exact ⟨k + 1, by omega, by go_num, SN⟩
      case measure => simp [intOf] <;> omega
    · obtain rfl : k = n := by omega
      have e : L.take k = L := List.take_of_length_le (by rw [HNL.out]; exact Nat.le_refl _)
      rw [e] at S2
      clear e
      go_wp2_with fail
      go_end0
      exact ⟨rfl, v, S1.out, S2.out, S3.out⟩
set_option linter.unusedSimpArgs false in
set_option linter.unusedVariables false in
set_option maxRecDepth 100000 in
set_option maxHeartbeats 2000000 in
theorem fulls_any (d mb : Nat) (L : List Ent) (w : World) (h : TbIn w d mb L) :
    Calls Try.prog 26 #[.pointer (some ⟨d, 0, none⟩)] w fun e w' => ∃ v, e = .returned v ∧ OwnsS bc 1 4 w' w.heap.size v (L.map fun e => e.st != 0) ∧ Below w.heap.size w w' := by
  have hba : Below w.heap.size w (w.alloc (.cells #[.slice none 0 0] 38)) := (Below.refl _ _).alloc (Nat.le_refl _) _
  have HE := Lib.hid (each_fulls d mb w.heap.size L _ (h.below hba) (heap_alloc_new w _) h.lt h.map.lt)
  have HB := Lib.hid hba
  clear hba h
  go_enter Try.func26, Try.ntmps26
  go_wp2_with fail
  refine HE.out.mono ?_
  rintro e w2 ⟨rfl, v, q1, q2, q3⟩
  have c0 := cell_of_row w2 w.heap.size 0 _ _ _ q1
  replace c0 : w2.cell? ⟨w.heap.size, 0, none⟩ = some v := c0
  have HO := Lib.hid q2
  have HG := Lib.hid (HB.out.trans q3)
  clear q1 q2 q3
  go_wp2
  go_ret
  exact ⟨_, rfl, HO.out.mono (by omega), HG.out⟩
end Go.Proofs.Ythikpggndjfeaaa
