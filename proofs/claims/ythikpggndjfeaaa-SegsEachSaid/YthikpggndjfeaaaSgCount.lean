/- segs: Count (by Each). -/
import Derived.Test.YthikpggndjfeaaaSgKnow
import Derived.IntWalk
namespace Go.Proofs.Ythikpggndjfeaaa
open Go.RowKit
theorem cnt_take {L : List Ent} {k : Nat} {s : Int} (h : k < L.length) : cntL (L.take (k + 1)) s = cntL (L.take k) s + if (getE L k).st = s then 1 else 0 := by
  unfold cntL
  rw [List.take_add_one, List.getElem?_eq_getElem h, List.filter_append, List.length_append, getE_nat, List.getElem?_eq_getElem h]
  congr 1
  show ([L[k]].filter fun e => decide (e.st = s)).length = if (L[k]).st = s then 1 else 0
  by_cases hs : (L[k]).st = s
  · simp [hs]
  · simp [hs]
theorem cnt_le (L : List Ent) (s : Int) : cntL L s ≤ L.length := List.length_filter_le _ _
set_option linter.unusedSimpArgs false in
set_option linter.unusedVariables false in
set_option maxRecDepth 100000 in
set_option maxHeartbeats 2000000 in
theorem count_fn (k t u s : Int) (n : Nat) (sb nb : Nat) (w : World) (hs : w.heap[sb]? = some (.cells #[.int .i64 s] 3 (0, 0))) (hn : w.heap[nb]? = some (.cells #[.int .i64 n] 3 (0, 0))) (hb : n ≤ 65536) :
    Calls Try.prog 32 #[.int .i64 k, .int .i64 t, .int .i64 u, .pointer (some ⟨sb, 0, none⟩), .pointer (some ⟨nb, 0, none⟩)] w fun e w' => e = .returned (.bool true) ∧ w'.heap[nb]? = some (.cells #[.int .i64 ((n + if t = s then 1 else 0 : Nat) : Int)] 3 (0, 0)) ∧ w.grownBy w' (some nb) := by
  have c1 := cell_of_row w sb 0 _ _ _ hs
  have c2 := cell_of_row w nb 0 _ _ _ hn
  have f2 := frozen_of_row w nb 0 _ _ hn
  have HN := Lib.hid hn
  replace c1 : w.cell? ⟨sb, 0, none⟩ = some (.int .i64 s) := c1
  replace c2 : w.cell? ⟨nb, 0, none⟩ = some (.int .i64 n) := c2
  have wr : IntKind.i64.wrap ((n : Int) + 1) = (n : Int) + 1 := IntWalk.i64_in _ (by omega)
  clear hs hn
  by_cases h : t = s
  · subst h
    go_enter Try.func32, Try.ntmps32
    go_wp2
    go_ret
    refine ⟨rfl, ?_, cell_grown1 _ _ _ _⟩
    rw [heap_setCell_same w nb 0 _ _ _ HN.out]
    rfl
  · have d : (t == s) = false := by simpa using h
    rw [if_neg h]
    clear h
    go_enter Try.func32, Try.ntmps32
    go_wp2
    go_ret
    exact ⟨rfl, HN.out, World.grownBy.refl _ _⟩
set_option linter.unusedSimpArgs false in
set_option linter.unusedVariables false in
set_option maxRecDepth 100000 in
set_option maxHeartbeats 2000000 in
theorem each_count (d mb sb nb : Nat) (L : List Ent) (s : Int) (w : World) (h : TbIn w d mb L) (hs : w.heap[sb]? = some (.cells #[.int .i64 s] 3 (0, 0))) (hn : w.heap[nb]? = some (.cells #[.int .i64 0] 3 (0, 0))) (n1 : d ≠ nb) (n2 : mb ≠ nb) (n3 : sb ≠ nb) :
    Calls Try.prog 20 #[.pointer (some ⟨d, 0, none⟩), .func (.func 32) #[] #[.pointer (some ⟨sb, 0, none⟩), .pointer (some ⟨nb, 0, none⟩)]] w fun e w' => e = .returned (.tuple #[]) ∧ w'.heap[nb]? = some (.cells #[.int .i64 (cntL L s)] 3 (0, 0)) ∧ w.grownBy w' (some nb) := by
  have H := Lib.hid h
  have HS := Lib.hid hs
  have c0 := h.c0
  obtain ⟨n, hnl⟩ : ∃ n, L.length = n := ⟨_, rfl⟩
  have hn2 := h.ok.n
  rw [hnl] at c0 hn2
  have HNL := Lib.hid hnl
  have N1 := Lib.hid n1
  have N2 := Lib.hid n2
  have N3 := Lib.hid n3
  have S0 : Hid (w.heap[nb]? = some (.cells #[.int .i64 ((cntL (L.take 0) s : Nat) : Int)] 3 (0, 0)) ∧ w.grownBy w (some nb)) := Lib.hid ⟨hn, World.grownBy.refl _ _⟩
  clear h hs hn hnl n1 n2 n3
  go_enter Try.func20, Try.ntmps20
  go_wp2_with fail
  go_loopw [4, 9] (fun _ i wr => ∃ k : Nat, k ≤ n ∧ i = .int .i64 k ∧ Hid (wr.heap[nb]? = some (.cells #[.int .i64 ((cntL (L.take k) s : Nat) : Int)] 3 (0, 0)) ∧ w.grownBy wr (some nb))) (fun _ i _ => n - (intOf i).toNat)
  case atStart => exact ⟨0, by omega, rfl, S0⟩
  case round =>
    clear S0 c0
    obtain ⟨k, hk, rfl, S⟩ := hrel
    have T := Lib.hid (H.out.grown S.out.2 (fun e => N1.out (by injection e)) (fun e => N2.out (by injection e)))
    by_cases hkn : k < n
    · have hin : inE L k = true := inE_of ⟨by omega, by rw [HNL.out]; omega⟩
      have HST := Lib.hid (state_any d mb L k wr T.out)
      rw [show stE L k = (getE L k).st by unfold stE; rw [if_pos hin]] at HST
      have HUS := Lib.hid (used_any d mb L k wr T.out (WalkArith.wf_i64 ⟨by omega, by omega⟩))
      have hct := cnt_take (L := L) (k := k) (s := s) (by rw [HNL.out]; exact hkn)
      have hcl : cntL (L.take k) s ≤ 65536 := by
        have h1 := cnt_le (L.take k) s
        rw [List.length_take] at h1
        omega
      obtain ⟨C, hC⟩ : ∃ C, cntL (L.take k) s = C := ⟨_, rfl⟩
      rw [hC] at hct hcl S
      obtain ⟨E, hE⟩ : ∃ E, getE L k = E := ⟨_, rfl⟩
      rw [hE] at hct HST HUS
      obtain ⟨st, us, ep⟩ := E
      dsimp only at hct HST HUS
      have HCF := Lib.hid (count_fn k st us s C sb nb wr ((S.out.2.block sb (Array.getElem?_eq_some_iff.1 HS.out).1 (fun e => N3.out (by injection e))).trans HS.out) S.out.1 hcl)
      have HCT := Lib.hid hct
      clear hin hct hcl hC hE
      go_wp2_with fail
      refine HST.out.mono ?_
      rintro e w' ⟨rfl, rfl⟩
      go_wp2_with fail
      refine HUS.out.mono ?_
      rintro e w' ⟨rfl, rfl⟩
      go_wp2_with fail
      refine HCF.out.mono ?_
      rintro e w2 ⟨rfl, hb, hg⟩
      rw [← HCT.out] at hb
      have S2 : Hid (w2.heap[nb]? = some (.cells #[.int .i64 ((cntL (L.take (k + 1)) s : Nat) : Int)] 3 (0, 0)) ∧ w.grownBy w2 (some nb)) := Lib.hid ⟨hb, grown_one S.out.2 hg⟩
      clear hb hg
      go_wp2_with fail
      go_roundw
      case rel => exact ⟨k + 1, by omega, by go_num, S2⟩
      case measure => simp [intOf] <;> omega
    · obtain rfl : k = n := by omega
      have e : L.take k = L := List.take_of_length_le (by rw [HNL.out]; exact Nat.le_refl _)
      rw [e] at S
      clear e
      go_wp2_with fail
      go_end0
      exact ⟨rfl, S.out.1, S.out.2⟩
set_option linter.unusedSimpArgs false in
set_option linter.unusedVariables false in
set_option maxRecDepth 100000 in
set_option maxHeartbeats 2000000 in
theorem count_any (d mb : Nat) (L : List Ent) (s : Int) (w : World) (h : TbIn w d mb L) :
    Calls Try.prog 17 #[.pointer (some ⟨d, 0, none⟩), .int .i64 s] w fun e w' => e = .returned (.int .i64 (cntL L s)) ∧ Below w.heap.size w w' := by
  have hba : Below w.heap.size w ((w.alloc (.cells #[.int .i64 s] 3)).alloc (.cells #[.int .i64 0] 3)) := ((Below.refl _ _).alloc (Nat.le_refl _) _).alloc (by simp) _
  have hrs := row_keep (heap_alloc_new w (.cells #[.int .i64 s] 3)) ((Below.refl (w.alloc (.cells #[.int .i64 s] 3)).heap.size _).alloc (Nat.le_refl _) (.cells #[.int .i64 0] 3))
  have hrn : ((w.alloc (.cells #[.int .i64 s] 3)).alloc (.cells #[.int .i64 0] 3)).heap[w.heap.size + 1]? = some (.cells #[.int .i64 0] 3 (0, 0)) := by
    have := heap_alloc_new (w.alloc (.cells #[.int .i64 s] 3)) (.cells #[.int .i64 0] 3)
    simpa using this
  have hd := h.lt
  have hm := h.map.lt
  have HE := Lib.hid (each_count d mb w.heap.size (w.heap.size + 1) L s _ (h.below hba) hrs hrn (by omega) (by omega) (by omega))
  have HB := Lib.hid hba
  clear hba hrs hrn hd hm h
  go_enter Try.func17, Try.ntmps17
  go_wp2_with fail
  refine HE.out.mono ?_
  rintro e w2 ⟨rfl, hb, hg⟩
  have c0 := cell_of_row w2 (w.heap.size + 1) 0 _ _ _ hb
  replace c0 : w2.cell? ⟨w.heap.size + 1, 0, none⟩ = some (.int .i64 (cntL L s)) := c0
  have HG := Lib.hid (Below.grown HB.out hg HB.out.size (fun k e => by injection e with e; omega))
  clear hb hg
  go_wp2
  go_ret
  exact ⟨rfl, HG.out⟩
end Go.Proofs.Ythikpggndjfeaaa
