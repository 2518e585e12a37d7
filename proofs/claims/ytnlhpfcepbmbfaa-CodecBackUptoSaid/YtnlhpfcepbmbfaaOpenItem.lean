/- Opening a slice of almanaclaw3.Item. -/
import Derived.Test.YtnlhpfcepbmbfaaBulk
import Derived.WalkKit
import Derived.ProofKit
import Derived.OpenShut
import Derived.Deep.Slices
import Derived.Deep.Grids
import Derived.Test.YtnlhpfcepbmbfaaRows
namespace Go.Proofs.Ytnlhpfcepbmbfaa
open Go.ChangeShapes Go.WideShapes Go.ChangeAt Go.RowKit
structure ItemP where
  kind : Int
  v : Int
  bs : List Int
  ls : List Int
  lo : Int
  hi : Int
instance : Inhabited ItemP := ⟨⟨0, 0, [], [], 0, 0⟩⟩
structure ItemAt (w : World) (b off : Nat) (A : ItemP) : Prop where
  ex : ∃ a2 n2 c2 a3 n3 c3, w.cell? ⟨b, off, none⟩ = some (.int .i64 A.kind) ∧ w.cell? ⟨b, off + 1, none⟩ = some (.int .i64 A.v) ∧ w.cell? ⟨b, off + 2, none⟩ = some (.slice a2 n2 c2) ∧ w.cell? ⟨b, off + 3, none⟩ = some (.slice a3 n3 c3) ∧ w.cell? ⟨b, off + 4, none⟩ = some (.int .i64 A.lo) ∧ w.cell? ⟨b, off + 5, none⟩ = some (.int .i64 A.hi) ∧ RdAt .u8 w a2 n2 c2 A.bs ∧ RdAt .i64 w a3 n3 c3 A.ls
  wf : (Lit.int .i64 A.kind).wf = true ∧ (Lit.int .i64 A.v).wf = true ∧ (Lit.int .i64 A.lo).wf = true ∧ (Lit.int .i64 A.hi).wf = true
structure ItemsAt (w : World) (a : Option Addr) (n : Nat) (L : List ItemP) : Prop where
  len : L.length = n
  at_ : ∀ i A, L[i]? = some A → ∃ b o, a = some ⟨b, o, none⟩ ∧ ItemAt w b (o + i * 6) A
def sumItem : List ItemP → Nat
  | [] => 0
  | A :: r => A.bs.length + A.ls.length + sumItem r
theorem bulk_item {H : Type} (R : List Nat) (f : Nat → ItemP) (g : Nat → DataW H) (h : ∀ r ∈ R, (f r).bs.length + (f r).ls.length + 1 ≤ Rows.uptoBulk (g r)) : sumItem (R.map f) + R.length ≤ Rows.uptoBulkAll (R.map g) := by
  induction R with
  | nil => simp [Rows.uptoBulkAll, sumItem]
  | cons x R ih =>
    have h1 := h x (by simp)
    have h2 := ih (fun r hr => h r (by simp [hr]))
    rw [List.map_cons, List.map_cons, List.length_cons]
    simp only [Rows.uptoBulkAll, sumItem]
    omega
theorem list_item {α : Type} {l : List α} (h : l.length = 6) : ∃ c0 c1 c2 c3 c4 c5, l = [c0, c1, c2, c3, c4, c5] := by
  match l, h with
  | [c0, c1, c2, c3, c4, c5], _ => exact ⟨_, _, _, _, _, _, rfl⟩
def item_F (fs : Array Field) : Bool := fs.size == 6 && (List.range 6).all fun i => match fs[i]? with | some f => f.offset == i && f.type == [3, 2, 22, 41, 3, 3].getD i 0 | none => false
set_option maxRecDepth 100000 in
theorem open_item {H : Type} {enc : TypeId × Value → H} {w : World} {base : Nat} {held : Bool} {a : Option Addr} {n c : Nat} {d : DataW H} {p : List MemPlace} {fs : Array Field} (hs : Try.prog.underlying 52 = some (.struct fs)) (hF : item_F fs = true) (hC : Try.prog.cellsOf 52 = 6)
    (h : DataW.Trod enc Try.prog w base (fun _ => true) held 44 (.slice a n c) d p) : ∃ L, ItemsAt w a n L ∧ sumItem L + n ≤ Rows.uptoBulk d := by
  obtain ⟨fuel, hf⟩ := h
  have hT : Try.prog.underlying 44 = some (.slice 52) := Try.underlying44
  rcases Go.Deep.open_slice hT hf with ⟨hcs, hxd⟩ | ⟨x, l, c', m, k, D, Pl, hcs, _, hl, hm, hmm, hxd, hall⟩
  · simp [Value.cells] at hcs
    obtain ⟨rfl, rfl, rfl⟩ := hcs
    exact ⟨[], ⟨rfl, fun i A hA => by simp at hA⟩, by simp [sumItem]⟩
  · simp [Value.cells] at hcs
    obtain ⟨rfl, rfl, rfl⟩ := hcs
    simp only [if_true] at hmm
    subst hmm
    have each : ∀ i, i < n → ∃ A : ItemP, (∃ b o, some x = some (⟨b, o, none⟩ : Addr) ∧ ItemAt w b (o + i * 6) A) ∧ A.bs.length + A.ls.length + 1 ≤ Rows.uptoBulk (D i) := by
      intro i hi
      obtain ⟨cs, h1, h2⟩ := hall i (by omega)
      rw [hC] at h1
      obtain ⟨_, hlen, hcell⟩ := World.cells?_some h1
      obtain ⟨v0, v1, v2, v3, v4, v5, rfl⟩ := list_item hlen
      obtain ⟨xs, kk, _, hDi, _, hxl, hg⟩ := DataW.trod_struct hs h2
      unfold item_F at hF
      rw [Bool.and_eq_true] at hF
      have h7 : fs.size = 6 := by simpa using hF.1
      have hff := List.all_eq_true.1 hF.2
      have key : ∀ (j : Nat) (v : Value) (T : TypeId), j < 6 → ([v0, v1, v2, v3, v4, v5] : List Value)[j]? = some v → [3, 2, 22, 41, 3, 3].getD j 0 = T → Try.prog.cellsOf T = 1 → ∃ y, DataW.trod enc Try.prog w base (fun _ => true) held kk T [v] = some y ∧ xs[j]? = some y := by
        intro j v T hj hv hTj hT1
        have hx := hff j (by simpa using hj)
        obtain ⟨f, hfi⟩ : ∃ f, fs[j]? = some f := ⟨_, Array.getElem?_eq_getElem (by omega)⟩
        rw [hfi] at hx
        simp only [Bool.and_eq_true, beq_iff_eq] at hx
        obtain ⟨ho, ht⟩ := hx
        have h3 := hg j f hfi
        rw [ho, ht, hTj, hT1] at h3
        have hd : (([v0, v1, v2, v3, v4, v5] : List Value).drop j).take 1 = [v] := by
          obtain ⟨hjl, hje⟩ := List.getElem?_eq_some_iff.1 hv
          rw [List.drop_eq_getElem_cons hjl, hje]
          rfl
        rw [hd] at h3
        exact ⟨_, h3.trans (List.getElem?_eq_getElem (by omega)), List.getElem?_eq_getElem (by omega)⟩
      obtain ⟨y0, t0, s0⟩ := key 0 v0 3 (by omega) rfl rfl (by kernel_rfl)
      obtain ⟨y1, t1, s1⟩ := key 1 v1 2 (by omega) rfl rfl (by kernel_rfl)
      obtain ⟨y2, t2, s2⟩ := key 2 v2 22 (by omega) rfl rfl (by kernel_rfl)
      obtain ⟨y3, t3, s3⟩ := key 3 v3 41 (by omega) rfl rfl (by kernel_rfl)
      obtain ⟨y4, t4, s4⟩ := key 4 v4 3 (by omega) rfl rfl (by kernel_rfl)
      obtain ⟨y5, t5, s5⟩ := key 5 v5 3 (by omega) rfl rfl (by kernel_rfl)
      obtain ⟨z0, e0, _, q0⟩ := DataW.trod_int Try.underlying3 t0
      obtain ⟨z1, e1, _, q1⟩ := DataW.trod_int Try.underlying2 t1
      obtain ⟨a2, n2, c2, z2, rfl, rk2, uk2⟩ := nums_of Try.underlying22 Try.underlying5 (by kernel_rfl) t2
      obtain ⟨a3, n3, c3, z3, rfl, rk3, uk3⟩ := nums_of Try.underlying41 Try.underlying3 (by kernel_rfl) t3
      obtain ⟨z4, e4, _, q4⟩ := DataW.trod_int Try.underlying3 t4
      obtain ⟨z5, e5, _, q5⟩ := DataW.trod_int Try.underlying3 t5
      simp only [List.cons.injEq, and_true] at e0 e1 e4 e5
      subst e0 e1 e4 e5
      have hsp : x.spot = none := by
        obtain ⟨cs0, h10, _⟩ := hall 0 (by omega)
        rw [hC] at h10
        obtain ⟨_, hlen0, hcell0⟩ := World.cells?_some h10
        have c0 := hcell0 0 (by omega)
        obtain ⟨xx0, xx1, xx2, xx3, xx4, xx5, rfl⟩ := list_item hlen0
        have := World.cell?_spot c0
        simpa [Addr.add] using this
      obtain ⟨b, o, sp⟩ := x
      have hsp' : sp = none := hsp
      subst hsp'
      have cc : ∀ j, j < 6 → w.cell? ⟨b, o + i * 6 + j, none⟩ = ([.int .i64 z0, .int .i64 z1, .slice a2 n2 c2, .slice a3 n3 c3, .int .i64 z4, .int .i64 z5] : List Value)[j]? := by
        intro j hj
        have hcj := hcell j (by simpa using hj)
        rw [Go.WideShapes.add_plain, Go.WideShapes.add_plain] at hcj
        exact hcj
      have hbulk : z2.length + z3.length + 1 ≤ Rows.uptoBulk (D i) := by
        rw [Prod.mk.injEq] at hDi
        rw [hDi.1]
        have h35 := bulk_two (l := xs.map (·.1)) (i := 2) (j := 3) (x := y2.1) (y := y3.1) (by omega) (by rw [List.getElem?_map, s2]; rfl) (by rw [List.getElem?_map, s3]; rfl)
        simp only [Rows.uptoBulk]
        omega
      exact ⟨⟨z0, z1, z2, z3, z4, z5⟩, ⟨b, o, rfl, ⟨a2, n2, c2, a3, n3, c3, cc 0 (by omega), cc 1 (by omega), cc 2 (by omega), cc 3 (by omega), cc 4 (by omega), cc 5 (by omega), rk2, rk3⟩, q0, q1, q4, q5⟩, hbulk⟩
    obtain ⟨A, hA⟩ := Go.Deep.choose_lt each
    refine ⟨(List.range n).map A, ⟨by simp, fun i B hB => ?_⟩, ?_⟩
    rotate_left
    · have h1 := bulk_item (List.range n) A D (fun r hr => (hA r (List.mem_range.1 hr)).2)
      rw [List.length_range] at h1
      rw [Prod.mk.injEq] at hxd
      rw [hxd.1]
      simp only [Rows.uptoBulk]
      omega
    rw [List.getElem?_map] at hB
    by_cases hi : i < n
    · rw [List.getElem?_range hi] at hB
      simp at hB
      subst hB
      exact (hA i hi).1
    · rw [List.getElem?_eq_none (by simp; omega)] at hB
      simp at hB
theorem items_open {H : Type} {enc : TypeId × Value → H} {w : World} {base : Nat} {held : Bool} {a : Option Addr} {n c : Nat} {d : DataW H} {p : List MemPlace} (h : DataW.Trod enc Try.prog w base (fun _ => true) held 44 (.slice a n c) d p) : ∃ L, ItemsAt w a n L ∧ sumItem L + n ≤ Rows.uptoBulk d :=
  open_item Try.underlying52 (by kernel_rfl) (by kernel_rfl) h
end Go.Proofs.Ytnlhpfcepbmbfaa
