/- A row of slices of bytes that the call makes by append. -/
import Derived.Test.YtendhldpgkdhnaaSum
import Derived.Laws.AppendOwn
import Derived.Laws.OwnMore
import Derived.OwnWalk
namespace Go.Proofs.Ytendhldpgkdhnaa
open Go.RowKit
def rowInfo : Prop := (Try.prog.info? 22).map (fun i => (i.zero, i.size, i.bytes)) = some (some (.slice none 0 0), 1, 24)
theorem rowI : rowInfo := by unfold rowInfo; kernel_rfl
theorem rowT : Try.prog.underlying 28 = some (.slice 22) := Try.underlying28
theorem rdAt_any (k : IntKind) (w : World) (y : Addr) (c : Nat) (h : c ≤ maxLen) : RdAt k w (some y) 0 c [] := ⟨rfl, Nat.zero_le _, h, fun i hi => by omega, by simp, fun e => by cases e⟩
structure RowsOf (w0 w : World) (base : Nat) (v : Value) (vs : List Value) (ls : List (List Int)) : Prop where
  own : w.ownsRow base 22 1 v vs.length vs
  len : vs.length = ls.length
  each : ∀ i, i < ls.length → ∃ a n c, vs[i]? = some (.slice a n c) ∧ RdAt .u8 w0 a n c (ls.getD i [])
theorem RowsOf.nil (w0 w : World) (base : Nat) : RowsOf w0 w base (.slice none 0 0) [] [] :=
  ⟨⟨rfl, .inl ⟨rfl, rfl⟩⟩, rfl, fun i hi => by simp at hi⟩
theorem RowsOf.push {w0 w w' : World} {base : Nat} {v v' : Value} {vs : List Value} {ls : List (List Int)} (h : RowsOf w0 w base v vs ls) {a : Option Addr} {n c : Nat} {l : List Int} (hr : RdAt .u8 w0 a n c l)
    (ho : w'.ownsRow base 22 1 v' (vs.length + 1) (vs ++ [.slice a n c])) : RowsOf w0 w' base v' (vs ++ [.slice a n c]) (ls ++ [l]) := by
  refine ⟨by simpa using ho, by simp [h.len], fun i hi => ?_⟩
  by_cases e : i < ls.length
  · obtain ⟨a', n', c', h1, h2⟩ := h.each i e
    refine ⟨a', n', c', ?_, ?_⟩
    · rw [List.getElem?_append_left (by rw [h.len]; exact e)]; exact h1
    · rw [show (ls ++ [l]).getD i [] = ls.getD i [] by simp [List.getD, List.getElem?_append_left e]]; exact h2
  · have hi2 : i = ls.length := by simp at hi; omega
    subst hi2
    refine ⟨a, n, c, ?_, ?_⟩
    · rw [← h.len]; simp
    · rw [show (ls ++ [l]).getD ls.length [] = l by simp [List.getD]]; exact hr
theorem RowsOf.shape {w0 w : World} {base : Nat} {v : Value} {vs : List Value} {ls : List (List Int)} (h : RowsOf w0 w base v vs ls) : ∃ a c, v = .slice a vs.length c := by
  rcases h.own.2 with ⟨hv, hn⟩ | ⟨g, cap, cur, hv, _⟩
  · exact ⟨none, 0, by rw [hv, hn]⟩
  · exact ⟨_, _, hv⟩
theorem RowsOf.parts {w0 w : World} {base : Nat} {v : Value} {vs : List Value} {ls : List (List Int)} (h : RowsOf w0 w base v vs ls) (hb : Below w0.heap.size w0 w) (hne : 0 < ls.length) :
    ∃ g c, v = .slice (some ⟨g, 0, none⟩) ls.length c ∧ PartsAt w (some ⟨g, 0, none⟩) ls.length ls := by
  have hl := h.len
  have ho := h.own
  rcases ho.2 with ⟨_, hn⟩ | ⟨g, cap, cur, hv, _⟩
  · omega
  · rw [hl] at hv
    refine ⟨g, cap, hv, rfl, fun i hi => ?_⟩
    obtain ⟨a, n, c, h1, h2⟩ := h.each i hi
    refine ⟨g, 0, a, n, c, rfl, ?_, h2.below hb⟩
    rw [hv, hl] at ho
    rw [Nat.zero_add, ho.cellAt i (by omega), h1]
theorem RowsOf.alloc {w0 w : World} {base : Nat} {v : Value} {vs : List Value} {ls : List (List Int)} (h : RowsOf w0 w base v vs ls) (o : Obj) : RowsOf w0 (w.alloc o) base v vs ls := ⟨h.own.alloc o, h.len, h.each⟩
section
variable {ops : Array Oper} {rest : List Oper} {o : Oper} {act : Act} {Q : Exit → Act → World → Prop}
/-- append(rows, b): one more. -/
theorem rows_one (hg : o.guard = none) (s x : Operand) (ho : o.op = .call { callee := .builtin .append, args := #[s, x], argTypes := #[28, 28] }) (w0 w : World) (base : Nat) (v : Value) (vs : List Value) (ls : List (List Int))
    (hs : act.eval s = v) (h : RowsOf w0 w base v vs ls) (a : Option Addr) (n c : Nat) (l : List Int) (hr : RdAt .u8 w0 a n c l) (hx : act.eval x = .slice (some ⟨w.heap.size, 0, none⟩) 1 1) (hlen : vs.length ≤ 1000000) (hbase : base ≤ w.heap.size) (hb : Below base w0 w)
    (hK : ∀ v' w', RowsOf w0 w' base v' (vs ++ [.slice a n c]) (ls ++ [l]) → Below base w0 w' → wpList Try.prog ops Q rest (act.put o.dst v') w') :
    wpList Try.prog ops Q (o :: rest) act (w.alloc (.cells #[.slice a n c] 22)) := by
  obtain ⟨i, hi, hz0, hz1, hz2⟩ := info_parts rowI
  refine wpList_append_own _ hg s x _ ho base 22 i (.slice none 0 0) 1 24 rowT hi hz0 hz1 hz2 rfl (by decide) v vs.length vs hs (h.own.alloc _) ⟨w.heap.size, 0, none⟩ 1 1 [.slice a n c] hx rfl ?_ ?_ ?_ ?_ ?_ ?_
  · intro j u hj
    cases j with
    | zero =>
      simp at hj
      subst hj
      simp [Addr.add]
    | succ j => simp at hj
  · intro u hu
    simp at hu
    subst hu
    rfl
  · unfold maxLen; omega
  · omega
  · simp; omega
  · intro v' w' h1 h2 _
    have hat : ∀ g, v.ownBlock = some g → base ≤ g := fun g hg => (h.own.lt g hg).1
    exact hK v' w' (h.push hr h1) ((hb.alloc hbase _).grown h2 (by simp; omega) hat)
end
end Go.Proofs.Ytendhldpgkdhnaa
