/- Opening a parameter []almanaclaw7.Act. -/
import Derived.Test.YthikpggndjfeaaaStructs
import Derived.WalkKit
import Derived.ProofKit
import Derived.OpenShut
import Derived.Deep.Slices
import Derived.Deep.Grids
import Derived.Test.YthikpggndjfeaaaRows
namespace Go.Proofs.Ythikpggndjfeaaa
open Go.ChangeShapes Go.WideShapes Go.ChangeAt Go.RowKit
/-- An act of a play. -/
structure ActS where
  op : Int
  k : Int
  ep : Int
  n : Int
def ActS.cells (r : ActS) : List Value := [.int .i64 r.op, .int .i64 r.k, .int .i64 r.ep, .int .i64 r.n]
structure ActS.Wf (r : ActS) : Prop where
  op : (Lit.int .i64 r.op).wf = true
  k : (Lit.int .i64 r.k).wf = true
  ep : (Lit.int .i64 r.ep).wf = true
  n : (Lit.int .i64 r.n).wf = true
theorem RdS.four {w : World} {a : Option Addr} {n c : Nat} {L : List ActS} (h : RdS ActS.cells 4 w a n c L) (i : Nat) (r : ActS) (hr : L[i]? = some r) :
    ∃ b o, a = some ⟨b, o, none⟩ ∧ w.cell? ⟨b, o + i * 4, none⟩ = some (.int .i64 r.op) ∧ w.cell? ⟨b, o + i * 4 + 1, none⟩ = some (.int .i64 r.k) ∧ w.cell? ⟨b, o + i * 4 + 2, none⟩ = some (.int .i64 r.ep) ∧ w.cell? ⟨b, o + i * 4 + 3, none⟩ = some (.int .i64 r.n) := by
  obtain ⟨b, o, e, hc⟩ := h.cell i r hr
  exact ⟨b, o, e, hc 0 _ rfl, hc 1 _ rfl, hc 2 _ rfl, hc 3 _ rfl⟩
instance : Inhabited ActS := ⟨⟨0, 0, 0, 0⟩⟩
theorem list_act {α : Type} {l : List α} (h : l.length = 4) : ∃ c0 c1 c2 c3, l = [c0, c1, c2, c3] := by
  match l, h with
  | [c0, c1, c2, c3], _ => exact ⟨_, _, _, _, rfl⟩
def act_F (fs : Array Field) : Bool := fs.size == 4 && (List.range 4).all fun i => match fs[i]? with | some f => f.offset == i && f.type == [3, 3, 3, 3].getD i 0 | none => false
set_option maxRecDepth 100000 in
theorem open_act {H : Type} {enc : TypeId × Value → H} {w : World} {base : Nat} {held : Bool} {a : Option Addr} {n c : Nat} {d : DataW H} {p : List MemPlace} {fs : Array Field} (hs : Try.prog.underlying 33 = some (.struct fs)) (hF : act_F fs = true) (hC : Try.prog.cellsOf 33 = 4)
    (h : DataW.Trod enc Try.prog w base (fun _ => true) held 22 (.slice a n c) d p) : ∃ L, RdS ActS.cells 4 w a n c L ∧ ∀ r ∈ L, r.Wf := by
  obtain ⟨fuel, hf⟩ := h
  have hT : Try.prog.underlying 22 = some (.slice 33) := Try.underlying22
  rcases Go.Deep.open_slice hT hf with ⟨hcs, hxd⟩ | ⟨x, l, c', m, k, D, Pl, hcs, _, hl, hm, hmm, hxd, hall⟩
  · simp [Value.cells] at hcs
    obtain ⟨rfl, rfl, rfl⟩ := hcs
    exact ⟨[], RdS.nil _ _ _, fun r hr => (List.not_mem_nil hr).elim⟩
  · simp [Value.cells] at hcs
    obtain ⟨rfl, rfl, rfl⟩ := hcs
    simp only [if_true] at hmm
    subst hmm
    have each : ∀ i, i < n → ∃ A : ActS, (∃ b o, some x = some (⟨b, o, none⟩ : Addr) ∧ ∀ j u, (ActS.cells A)[j]? = some u → w.cell? ⟨b, o + i * 4 + j, none⟩ = some u) ∧ A.Wf := by
      intro i hi
      obtain ⟨cs, h1, h2⟩ := hall i (by omega)
      rw [hC] at h1
      obtain ⟨_, hlen, hcell⟩ := World.cells?_some h1
      obtain ⟨v0, v1, v2, v3, rfl⟩ := list_act hlen
      obtain ⟨xs, kk, _, hDi, _, hxl, hg⟩ := DataW.trod_struct hs h2
      unfold act_F at hF
      rw [Bool.and_eq_true] at hF
      have h7 : fs.size = 4 := by simpa using hF.1
      have hff := List.all_eq_true.1 hF.2
      have key : ∀ (j : Nat) (v : Value) (T : TypeId), j < 4 → ([v0, v1, v2, v3] : List Value)[j]? = some v → [3, 3, 3, 3].getD j 0 = T → Try.prog.cellsOf T = 1 → ∃ y, DataW.trod enc Try.prog w base (fun _ => true) held kk T [v] = some y ∧ xs[j]? = some y := by
        intro j v T hj hv hTj hT1
        have hx := hff j (by simpa using hj)
        obtain ⟨f, hfi⟩ : ∃ f, fs[j]? = some f := ⟨_, Array.getElem?_eq_getElem (by omega)⟩
        rw [hfi] at hx
        simp only [Bool.and_eq_true, beq_iff_eq] at hx
        obtain ⟨ho, ht⟩ := hx
        have h3 := hg j f hfi
        rw [ho, ht, hTj, hT1] at h3
        have hd : (([v0, v1, v2, v3] : List Value).drop j).take 1 = [v] := by
          obtain ⟨hjl, hje⟩ := List.getElem?_eq_some_iff.1 hv
          rw [List.drop_eq_getElem_cons hjl, hje]
          rfl
        rw [hd] at h3
        exact ⟨_, h3.trans (List.getElem?_eq_getElem (by omega)), List.getElem?_eq_getElem (by omega)⟩
      obtain ⟨y0, t0, s0⟩ := key 0 v0 3 (by omega) rfl rfl (by kernel_rfl)
      obtain ⟨y1, t1, s1⟩ := key 1 v1 3 (by omega) rfl rfl (by kernel_rfl)
      obtain ⟨y2, t2, s2⟩ := key 2 v2 3 (by omega) rfl rfl (by kernel_rfl)
      obtain ⟨y3, t3, s3⟩ := key 3 v3 3 (by omega) rfl rfl (by kernel_rfl)
      obtain ⟨z0, e0, _, q0⟩ := DataW.trod_int Try.underlying3 t0
      obtain ⟨z1, e1, _, q1⟩ := DataW.trod_int Try.underlying3 t1
      obtain ⟨z2, e2, _, q2⟩ := DataW.trod_int Try.underlying3 t2
      obtain ⟨z3, e3, _, q3⟩ := DataW.trod_int Try.underlying3 t3
      simp only [List.cons.injEq, and_true] at e0 e1 e2 e3
      subst e0 e1 e2 e3
      have hsp : x.spot = none := by
        obtain ⟨cs0, h10, _⟩ := hall 0 (by omega)
        rw [hC] at h10
        obtain ⟨_, hlen0, hcell0⟩ := World.cells?_some h10
        have c0 := hcell0 0 (by omega)
        obtain ⟨xx0, xx1, xx2, xx3, rfl⟩ := list_act hlen0
        have := World.cell?_spot c0
        simpa [Addr.add] using this
      obtain ⟨b, o, sp⟩ := x
      have hsp' : sp = none := hsp
      subst hsp'
      have cc : ∀ j, j < 4 → w.cell? ⟨b, o + i * 4 + j, none⟩ = ([.int .i64 z0, .int .i64 z1, .int .i64 z2, .int .i64 z3] : List Value)[j]? := by
        intro j hj
        have hcj := hcell j (by simpa using hj)
        rw [Go.WideShapes.add_plain, Go.WideShapes.add_plain] at hcj
        exact hcj
      refine ⟨⟨z0, z1, z2, z3⟩, ⟨b, o, rfl, fun j u hu => ?_⟩, ⟨q0, q1, q2, q3⟩⟩
      have hj : j < 4 := (List.getElem?_eq_some_iff.1 hu).1
      rw [cc j hj]
      exact hu
    obtain ⟨A, hA⟩ := Go.Deep.choose_lt each
    refine ⟨(List.range n).map A, ⟨by simp, hl, hm, fun i B hB => ?_, fun h => by cases h⟩, fun r hr => ?_⟩
    · rw [List.getElem?_map] at hB
      by_cases hi : i < n
      · rw [List.getElem?_range hi] at hB
        simp at hB
        subst hB
        exact (hA i hi).1
      · rw [List.getElem?_eq_none (by simp; omega)] at hB
        simp at hB
    · obtain ⟨i, hi, rfl⟩ := List.mem_map.1 hr
      exact (hA i (List.mem_range.1 hi)).2
set_option maxRecDepth 100000 in
theorem acts7_open {H : Type} {enc : TypeId × Value → H} {w : World} {base : Nat} {held : Bool} {a : Option Addr} {n c : Nat} {d : DataW H} {p : List MemPlace} (h : DataW.Trod enc Try.prog w base (fun _ => true) held 22 (.slice a n c) d p) : ∃ L, (RdS ActS.cells 4 w a n c L ∧ ∀ r ∈ L, r.Wf) ∧ True := by
  obtain ⟨L, h1⟩ := open_act Try.underlying33 (by kernel_rfl) (by kernel_rfl) h
  exact ⟨L, h1, trivial⟩
end Go.Proofs.Ythikpggndjfeaaa
