/- segs: Each with SegsEach's own round. -/
import Derived.Test.YthikpggndjfeaaaSgStep
namespace Go.Proofs.Ythikpggndjfeaaa
open Go.RowKit
/-- The five variables that SegsEach's round bears. -/
structure EachV (w : World) (okb kb nb rb sb rd n k : Nat) (stop : Int) : Prop where
  o : w.heap[okb]? = some (.cells #[.bool true] 4 (0, 0))
  k : w.heap[kb]? = some (.cells #[.int .i64 k] 3 (0, 0))
  n : w.heap[nb]? = some (.cells #[.int .i64 n] 3 (0, 0))
  r : w.heap[rb]? = some (.cells #[.pointer (some ⟨rd, 0, none⟩)] 41 (0, 0))
  s : w.heap[sb]? = some (.cells #[.int .i64 stop] 3 (0, 0))
structure EachN (okb kb nb rb sb : Nat) : Prop where
  a : okb ≠ kb
  b : nb ≠ okb ∧ nb ≠ kb
  c : rb ≠ okb ∧ rb ≠ kb
  d : sb ≠ okb ∧ sb ≠ kb
theorem EachV.turn {w w' : World} {okb kb nb rb sb rd n k k' : Nat} {stop : Int} (h : EachV w okb kb nb rb sb rd n k stop) (N : EachN okb kb nb rb sb) (t : Tw okb kb w w') (ho : w'.heap[okb]? = some (.cells #[.bool true] 4 (0, 0))) (hk : w'.heap[kb]? = some (.cells #[.int .i64 k'] 3 (0, 0))) : EachV w' okb kb nb rb sb rd n k' stop :=
  ⟨ho, hk, (t.block nb (Array.getElem?_eq_some_iff.1 h.n).1 N.b.1 N.b.2).trans h.n, (t.block rb (Array.getElem?_eq_some_iff.1 h.r).1 N.c.1 N.c.2).trans h.r, (t.block sb (Array.getElem?_eq_some_iff.1 h.s).1 N.d.1 N.d.2).trans h.s⟩
set_option linter.unusedSimpArgs false in
set_option linter.unusedVariables false in
set_option maxRecDepth 100000 in
set_option maxHeartbeats 4000000 in
theorem each1_fn (k n : Nat) (L : List Ent) (rd g okb kb nb rb sb : Nat) (stop : Int) (w : World) (hr : RtIn w rd g L) (hk : k < L.length) (hn : L.length = n) (hv : EachV w okb kb nb rb sb rd n k stop) (hN : EachN okb kb nb rb sb) (hn2 : n ≤ 65536) :
    Calls Try.prog 21 #[.int .i64 k, .int .i64 (getE L k).st, .int .i64 (getE L k).us, .pointer (some ⟨okb, 0, none⟩), .pointer (some ⟨kb, 0, none⟩), .pointer (some ⟨nb, 0, none⟩), .pointer (some ⟨rb, 0, none⟩), .pointer (some ⟨sb, 0, none⟩)] w fun e w' => e = .returned (.bool (decide ((k : Int) + 1 ≤ stop))) ∧ EachV w' okb kb nb rb sb rd n (k + 1) stop ∧ Tw okb kb w w' := by
  have HS := Lib.hid (refstate_any rd g L k w hr)
  rw [show stE L k = (getE L k).st by unfold stE; rw [if_pos (inE_of ⟨by omega, by omega⟩)]] at HS
  have HU := Lib.hid (refused_any rd g L k w hr)
  obtain ⟨E, hE⟩ : ∃ E, getE L k = E := ⟨_, rfl⟩
  rw [hE] at HS HU ⊢
  obtain ⟨st, us, ep⟩ := E
  dsimp only at HS HU ⊢
  have g1 := cell_grown1 w okb 0 (.bool true)
  have p1 := heap_setCell_same w okb 0 _ _ (.bool true) hv.o
  have pk : (w.setCell ⟨okb, 0, none⟩ (.bool true)).heap[kb]? = some (.cells #[.int .i64 k] 3 (0, 0)) := (g1.block kb (Array.getElem?_eq_some_iff.1 hv.k).1 (fun e => hN.a (by injection e with e; exact e.symm))).trans hv.k
  have g2 := cell_grown1 (w.setCell ⟨okb, 0, none⟩ (.bool true)) kb 0 (.int .i64 ((k : Int) + 1))
  have p2 := heap_setCell_same (w.setCell ⟨okb, 0, none⟩ (.bool true)) kb 0 _ _ (.int .i64 ((k : Int) + 1)) pk
  have po : ((w.setCell ⟨okb, 0, none⟩ (.bool true)).setCell ⟨kb, 0, none⟩ (.int .i64 ((k : Int) + 1))).heap[okb]? = some (.cells #[.bool true] 4 (0, 0)) := (g2.block okb (Array.getElem?_eq_some_iff.1 p1).1 (fun e => hN.a (by injection e))).trans p1
  have T : Tw okb kb w ((w.setCell ⟨okb, 0, none⟩ (.bool true)).setCell ⟨kb, 0, none⟩ (.int .i64 ((k : Int) + 1))) := (Tw.lft (Tw.of_below (Below.refl _ _)) g1).rgt g2
  have V2 := hv.turn (k' := k + 1) hN T po p2
  have a1 : w.cell? ⟨okb, 0, none⟩ = some (.bool true) := cell_of_row w okb 0 _ _ _ hv.o
  have a2 : w.cell? ⟨kb, 0, none⟩ = some (.int .i64 k) := cell_of_row w kb 0 _ _ _ hv.k
  have a3 : w.cell? ⟨nb, 0, none⟩ = some (.int .i64 n) := cell_of_row w nb 0 _ _ _ hv.n
  have a4 : w.cell? ⟨rb, 0, none⟩ = some (.pointer (some ⟨rd, 0, none⟩)) := cell_of_row w rb 0 _ _ _ hv.r
  have f1 := frozen_of_row w okb 0 _ _ hv.o
  have b2 : (w.setCell ⟨okb, 0, none⟩ (.bool true)).cell? ⟨kb, 0, none⟩ = some (.int .i64 k) := cell_of_row _ kb 0 _ _ _ pk
  have f2 := frozen_of_row _ kb 0 _ _ pk
  have e2 : ((w.setCell ⟨okb, 0, none⟩ (.bool true)).setCell ⟨kb, 0, none⟩ (.int .i64 ((k : Int) + 1))).cell? ⟨kb, 0, none⟩ = some (.int .i64 ((k : Int) + 1)) := cell_of_row _ kb 0 _ _ _ p2
  have e5 : ((w.setCell ⟨okb, 0, none⟩ (.bool true)).setCell ⟨kb, 0, none⟩ (.int .i64 ((k : Int) + 1))).cell? ⟨sb, 0, none⟩ = some (.int .i64 stop) := cell_of_row _ sb 0 _ _ _ V2.s
  have dk : decide ((k : Int) < (n : Int)) = true := decide_eq_true (by omega)
  have dk2 : decide (k < n) = true := decide_eq_true (by omega)
  have wr : IntKind.i64.wrap ((k : Int) + 1) = (k : Int) + 1 := IntWalk.i64_in _ (by omega)
  have HV2 := Lib.hid V2
  have HT := Lib.hid T
  clear hE hr hk hn hv g1 p1 pk g2 p2 po T V2
  go_enter Try.func21, Try.ntmps21
  go_wp2_with fail
  refine HS.out.mono ?_
  rintro e w' ⟨rfl, rfl⟩
  go_wp2_with fail
  refine HU.out.mono ?_
  rintro e w' ⟨rfl, rfl⟩
  go_wp2
  go_ret
  exact ⟨rfl, HV2.out, HT.out⟩
/-- How many rounds there are. -/
def wantE (n : Nat) (stop : Int) : Nat := if stop < 0 then 1 else if stop < n then stop.toNat + 1 else n
set_option linter.unusedSimpArgs false in
set_option linter.unusedVariables false in
set_option maxRecDepth 100000 in
set_option maxHeartbeats 4000000 in
theorem each_law (d mb : Nat) (n : Nat) (L : List Ent) (rd g okb kb nb rb sb : Nat) (stop : Int) (w : World) (ht : TbIn w d mb L) (hr : RtIn w rd g L) (hn : L.length = n) (hv : EachV w okb kb nb rb sb rd n 0 stop) (hN : EachN okb kb nb rb sb) (hd : (d ≠ okb ∧ d ≠ kb) ∧ (mb ≠ okb ∧ mb ≠ kb) ∧ (rd ≠ okb ∧ rd ≠ kb) ∧ (g ≠ okb ∧ g ≠ kb)) :
    Calls Try.prog 20 #[.pointer (some ⟨d, 0, none⟩), .func (.func 21) #[] #[.pointer (some ⟨okb, 0, none⟩), .pointer (some ⟨kb, 0, none⟩), .pointer (some ⟨nb, 0, none⟩), .pointer (some ⟨rb, 0, none⟩), .pointer (some ⟨sb, 0, none⟩)]] w fun e w' => e = .returned (.tuple #[]) ∧ EachV w' okb kb nb rb sb rd n (wantE n stop) stop ∧ Tw okb kb w w' := by
  have H := Lib.hid ht
  have HR := Lib.hid hr
  have HN := Lib.hid hN
  have HD := Lib.hid hd
  have c0 := ht.c0
  have hn2 := ht.ok.n
  rw [hn] at c0 hn2
  have HNL := Lib.hid hn
  have S0 : Hid (EachV w okb kb nb rb sb rd n 0 stop ∧ Tw okb kb w w) := Lib.hid ⟨hv, Tw.of_below (Below.refl _ _)⟩
  clear ht hr hN hd hn hv
  go_enter Try.func20, Try.ntmps20
  go_wp2_with fail
  go_loopw [4, 9] (fun _ i wr => ∃ k : Nat, k ≤ n ∧ i = .int .i64 k ∧ (k = 0 ∨ (k : Int) ≤ stop) ∧ Hid (EachV wr okb kb nb rb sb rd n k stop ∧ Tw okb kb w wr)) (fun _ i _ => n - (intOf i).toNat)
  case atStart => exact ⟨0, by omega, rfl, .inl rfl, S0⟩
  case round =>
    clear S0 c0
    obtain ⟨k, hk, rfl, hks, S⟩ := hrel
    have HKS := Lib.hid hks
    clear hks
    have T : Hid (TbIn wr d mb L) := Lib.hid ⟨(S.out.2.block d H.out.lt HD.out.1.1 HD.out.1.2).trans H.out.row, H.out.map.at (S.out.2.block mb H.out.map.lt HD.out.2.1.1 HD.out.2.1.2), H.out.ok⟩
    have R : Hid (RtIn wr rd g L) := Lib.hid ⟨(S.out.2.block rd HR.out.lt HD.out.2.2.1.1 HD.out.2.2.1.2).trans HR.out.row, (S.out.2.block g HR.out.lt2 HD.out.2.2.2.1 HD.out.2.2.2.2).trans HR.out.seg, HR.out.ok, HR.out.ne⟩
    by_cases hkn : k < n
    · have hkl : k < L.length := by rw [HNL.out]; exact hkn
      have HST := Lib.hid (state_any d mb L k wr T.out)
      rw [show stE L k = (getE L k).st by unfold stE; rw [if_pos (inE_of ⟨by omega, by omega⟩)]] at HST
      have HUS := Lib.hid (used_any d mb L k wr T.out (WalkArith.wf_i64 ⟨by omega, by omega⟩))
      have HF := Lib.hid (each1_fn k n L rd g okb kb nb rb sb stop wr R.out hkl HNL.out S.out.1 HN.out hn2.2)
      obtain ⟨E, hE⟩ : ∃ E, getE L k = E := ⟨_, rfl⟩
      rw [hE] at HST HUS HF
      obtain ⟨st, us, ep⟩ := E
      dsimp only at HST HUS HF
      clear hE hkl
      by_cases hs : (k : Int) + 1 ≤ stop
      · rw [decide_eq_true hs] at HF
        have HSS := Lib.hid hs
        clear hs
        go_wp2_with fail
        refine HST.out.mono ?_
        rintro e w' ⟨rfl, rfl⟩
        go_wp2_with fail
        refine HUS.out.mono ?_
        rintro e w' ⟨rfl, rfl⟩
        go_wp2_with fail
        refine HF.out.mono ?_
        rintro e w2 ⟨rfl, q1, q2⟩
        have S2 : Hid (EachV w2 okb kb nb rb sb rd n (k + 1) stop ∧ Tw okb kb w w2) := Lib.hid ⟨q1, S.out.2.trans q2⟩
        clear q1 q2
        go_wp2_with fail
        go_roundw
        case rel => exact ⟨k + 1, by omega, by go_num, .inr (by have := HSS.out; omega), S2⟩
        case measure => simp [intOf] <;> omega
      · rw [decide_eq_false hs] at HF
        have hwant : wantE n stop = k + 1 := by
          have := HKS.out
          unfold wantE
          by_cases h0 : stop < 0
          · rw [if_pos h0]; omega
          · rw [if_neg h0, if_pos (by omega)]; omega
        have HWN := Lib.hid hwant
        clear hs hwant
        go_wp2_with fail
        refine HST.out.mono ?_
        rintro e w' ⟨rfl, rfl⟩
        go_wp2_with fail
        refine HUS.out.mono ?_
        rintro e w' ⟨rfl, rfl⟩
        go_wp2_with fail
        refine HF.out.mono ?_
        rintro e w2 ⟨rfl, q1, q2⟩
        have S2 : Hid (EachV w2 okb kb nb rb sb rd n (wantE n stop) stop ∧ Tw okb kb w w2) := Lib.hid ⟨by rw [HWN.out]; exact q1, S.out.2.trans q2⟩
        clear q1 q2
        go_wp2_with fail
        refine bodyPost_ret (v := .tuple #[]) (by simp [results, Try.results20, go_sem]) rfl ?_
        exact ⟨rfl, S2.out.1, S2.out.2⟩
    · obtain rfl : k = n := by omega
      have hwant : wantE k stop = k := by
        have := HKS.out
        have h3 := hn2.1
        unfold wantE
        rw [if_neg (by omega), if_neg (by omega)]
      have S2 : Hid (EachV wr okb kb nb rb sb rd k (wantE k stop) stop ∧ Tw okb kb w wr) := by rw [hwant]; exact S
      clear hwant
      go_wp2_with fail
      go_end0
      exact ⟨rfl, S2.out.1, S2.out.2⟩
end Go.Proofs.Ythikpggndjfeaaa
