/- disk: data: what an act writes. -/
import Derived.Test.YtpgncmoagmkcmaaDkFew
namespace Go.Proofs.Ytpgncmoagmkcmaa
open Go.RowKit
theorem mkN (s : Nat) (hs : s ≤ 1000000) (w : World) : ∃ w', (Instr.makeSlice 22 (.int .i64 (s : Int)) (.int .i64 (s : Int))).run Try.prog w = .ok (.slice (some ⟨w.heap.size, 0, none⟩) s s) w' ∧ BufAt w' w.heap.size (List.replicate s 0) ∧ Below w.heap.size w w' :=
  ⟨_, mk_bytes s hs w, ⟨by rw [List.map_replicate]; exact heap_alloc_new _ _, fun x hx => by rw [List.eq_of_mem_replicate hx]; rfl, by simpa using hs⟩, (Below.refl _ _).alloc (Nat.le_refl _) _⟩
def fillK (f : Int) (s k : Nat) : List Int := (List.range s).map fun i => if i < k then (f + (i : Int)) % 256 else 0
def dataL (A : ActP) (s : Nat) : List Int := if 0 < A.bytes.length then A.bytes else fillK A.fill s s
theorem fillK_len (f : Int) (s k : Nat) : (fillK f s k).length = s := by unfold fillK; simp
theorem fillK_0 (f : Int) (s : Nat) : fillK f s 0 = List.replicate s 0 := by
  apply List.ext_getElem?
  intro i
  unfold fillK
  rw [List.getElem?_map, List.getElem?_replicate]
  by_cases h : i < s
  · rw [List.getElem?_range h, if_pos h]; simp
  · rw [List.getElem?_eq_none (by simp; omega), if_neg h]; rfl
theorem fillK_set (f : Int) (s k : Nat) (hk : k < s) : (fillK f s k).set k ((f + (k : Int)) % 256) = fillK f s (k + 1) := by
  apply List.ext_getElem?
  intro i
  unfold fillK
  rw [List.getElem?_set, List.getElem?_map, List.getElem?_map, List.length_map, List.length_range]
  by_cases h : i < s
  · rw [List.getElem?_range h]
    by_cases hik : k = i
    · subst hik
      rw [if_pos rfl, if_pos hk]
      simp
    · rw [if_neg hik]
      simp only [Option.map_some]
      by_cases h1 : i < k
      · rw [if_pos h1, if_pos (by omega)]
      · rw [if_neg h1, if_neg (by omega)]
  · rw [List.getElem?_eq_none (l := List.range s) (by simp; omega)]
    by_cases hik : k = i
    · omega
    · rw [if_neg hik]; rfl
set_option linter.unusedSimpArgs false in
set_option linter.unusedVariables false in
set_option maxRecDepth 100000 in
set_option maxHeartbeats 2000000 in
theorem data_any (A : ActP) (ba : Option Addr) (bn bc : Nat) (ka : Option Addr) (kn kc : Nat) (s : Nat) (w : World) (hr : RdAt .u8 w ba bn bc A.bytes) (hs : s ≤ 1000000) (hf : (Lit.int .u8 A.fill).wf = true) :
    Calls Try.prog 20 #[.agg #[.int .i64 A.op, .int .i64 A.sec, .int .u8 A.fill, .slice ba bn bc, .int .i64 A.n, .slice ka kn kc, .int .u32 A.pat], .int .i64 s] w fun e w' => ∃ a n c, e = .returned (.slice a n c) ∧ RdAt .u8 w' a n c (dataL A s) ∧ Below w.heap.size w w' ∧ (∀ x, a = some x → (a = ba ∧ n = bn ∧ 0 < bn) ∨ w.heap.size ≤ x.block) := by
  have hlen := hr.len
  have HR := Lib.hid hr
  clear hr
  by_cases hb : 0 < bn
  · have d0 : decide ((0 : Int) < bn) = true := decide_eq_true (by omega)
    have hE : dataL A s = A.bytes := by unfold dataL; rw [if_pos (by omega)]
    rw [hE]
    clear hE hlen hf
    go_enter Try.func20, Try.ntmps20
    go_wp2_with fail
    go_ret
    have hB : Below w.heap.size w (w.alloc (.cells #[.int .i64 A.op, .int .i64 A.sec, .int .u8 A.fill, .slice ba bn bc, .int .i64 A.n, .slice ka kn kc, .int .u32 A.pat] 49)) := (Below.refl _ _).alloc (Nat.le_refl _) _
    exact ⟨_, _, _, rfl, HR.out.below hB, hB, fun x _ => .inl ⟨rfl, rfl, hb⟩⟩
  · have hbn : bn = 0 := by omega
    subst hbn
    have hE : dataL A s = fillK A.fill s s := by unfold dataL; rw [if_neg (by omega)]
    rw [hE]
    clear hE hlen
    have hf2 : 0 ≤ A.fill ∧ A.fill ≤ 255 := by
      simp [Lit.wf, IntKind.min, IntKind.max, IntKind.signed, IntKind.bits] at hf; omega
    clear hf
    go_enter Try.func20, Try.ntmps20
    go_wp2_with fail
    obtain ⟨w1, hw1⟩ : ∃ w1, w.alloc (.cells #[.int .i64 A.op, .int .i64 A.sec, .int .u8 A.fill, .slice ba 0 bc, .int .i64 A.n, .slice ka kn kc, .int .u32 A.pat] 49) = w1 := ⟨_, rfl⟩
    have hrow1 : w1.heap[w.heap.size]? = some (.cells #[.int .i64 A.op, .int .i64 A.sec, .int .u8 A.fill, .slice ba 0 bc, .int .i64 A.n, .slice ka kn kc, .int .u32 A.pat] 49 (0, 0)) := by rw [← hw1]; exact heap_alloc_new _ _
    have hb1 : Below w.heap.size w w1 := by rw [← hw1]; exact (Below.refl _ _).alloc (Nat.le_refl _) _
    rw [hw1]
    obtain ⟨w2, hr2, hu2, hb2⟩ := mkN s hs w1
    rw [hr2]
    obtain ⟨g, hg⟩ : ∃ g, w1.heap.size = g := ⟨_, rfl⟩
    rw [hg] at hu2 ⊢
    have hrow2 := row_keep hrow1 hb2
    have hne : w.heap.size ≠ g := by have := (Array.getElem?_eq_some_iff.1 hrow1).1; omega
    have U2 := Lib.hid hu2
    have B2 := Lib.hid (Below.call hb1 hb2)
    have ROW2 := Lib.hid hrow2
    have hgw : w.heap.size ≤ g := by rw [← hg]; exact hb1.size
    clear hw1 hrow1 hb1 hr2 hu2 hb2 hrow2 hg
    go_wp2_with fail
    go_loopw [6] (fun i wr => ∃ k : Nat, k ≤ s ∧ i = .int .i64 k ∧ Hid (BufAt wr g (fillK A.fill s k)) ∧ Hid (Below w.heap.size w wr) ∧ Hid (wr.heap[w.heap.size]? = some (.cells #[.int .i64 A.op, .int .i64 A.sec, .int .u8 A.fill, .slice ba 0 bc, .int .i64 A.n, .slice ka kn kc, .int .u32 A.pat] 49 (0, 0)))) (fun i _ => s - (intOf i).toNat)
    case atStart => exact ⟨0, by omega, rfl, by rw [fillK_0]; exact U2.out, B2, ROW2⟩
    case round =>
      clear U2 B2 ROW2
      obtain ⟨k, hk, rfl, U3, B3, ROW3⟩ := hrel
      by_cases hkm : k < s
      · have dkm : decide ((k : Int) < s) = true := decide_eq_true (by omega)
        have c2 : wr.cell? ⟨w.heap.size, 2, none⟩ = some (.int .u8 A.fill) := by rw [cell_of_row wr _ _ _ _ _ ROW3.out]; rfl
        have cu := U3.out.cell (i := k) (by rw [fillK_len]; exact hkm)
        have fu := U3.out.free k
        have wa : IntKind.u8.wrap (A.fill + IntKind.u8.wrap (k : Int)) = (A.fill + (k : Int)) % 256 := by
          simp [IntKind.wrap, IntKind.bits, IntKind.signed]
        go_wp2_with fail
        go_roundw
        case rel =>
          refine ⟨k + 1, by omega, by go_num, ?_, B3.out.trans (put_below _ _ _ _ _ hgw), ?_⟩
          · rw [← fillK_set A.fill s k hkm]
            exact U3.out.put k _ (by simp [Lit.wf, IntKind.min, IntKind.max, IntKind.signed, IntKind.bits]; omega)
          · show (wr.setCell ⟨g, k, none⟩ _).heap[w.heap.size]? = _
            rw [heap_setCell_other wr ⟨g, k, none⟩ w.heap.size _ hne]
            exact ROW3.out
        case measure => simp [intOf] <;> omega
      · obtain rfl : k = s := by omega
        go_wp2_with fail
        go_ret
        have hrd := U3.out.rd
        rw [fillK_len] at hrd
        exact ⟨_, _, _, rfl, hrd, B3.out, fun x hx => .inr (by injection hx with hx; subst hx; exact hgw)⟩
end Go.Proofs.Ytpgncmoagmkcmaa
