/- Opening slices of numbers, bools; how much lies in data. -/
import Derived.WalkKit
import Derived.ProofKit
import Derived.OpenShut
import Derived.Deep.Slices
import Derived.Deep.Grids
import Derived.Test.YtnlhpfcepbmbfaaMem
import Derived.Test.YtnlhpfcepbmbfaaRows
namespace Go.Proofs.Ytnlhpfcepbmbfaa
open Go.ChangeShapes Go.WideShapes Go.ChangeAt Go.RowKit
theorem bulk_one {H : Type} (d : DataW H) : 1 ≤ Rows.uptoBulk d := by
  cases d with
  | lit l => cases l <;> simp [Rows.uptoBulk]
  | nil => simp [Rows.uptoBulk]
  | ptr d => simp [Rows.uptoBulk]
  | slice elems spare => simp [Rows.uptoBulk]
  | agg parts => simp [Rows.uptoBulk]
  | iface t d => simp [Rows.uptoBulk]
  | map entries => simp [Rows.uptoBulk]
  | held h => simp [Rows.uptoBulk]
theorem bulk_length {H : Type} (l : List (DataW H)) : l.length ≤ Rows.uptoBulkAll l := by
  induction l with
  | nil => simp [Rows.uptoBulkAll]
  | cons x r ih => have := bulk_one x; simp only [Rows.uptoBulkAll, List.length_cons]; omega
theorem bulk_slice {H : Type} (elems spare : List (DataW H)) : Rows.uptoBulkAll elems + 1 ≤ Rows.uptoBulk (.slice elems spare) := by
  simp only [Rows.uptoBulk]; omega
theorem bulk_part {H : Type} {d : DataW H} {l : List (DataW H)} (h : d ∈ l) : Rows.uptoBulk d ≤ Rows.uptoBulkAll l := by
  induction l with
  | nil => cases h
  | cons x r ih =>
    simp only [Rows.uptoBulkAll]
    cases List.mem_cons.1 h with
    | inl e => subst e; omega
    | inr e => have := ih e; omega
theorem bulk_bound {H : Type} {l : List (DataW H)} (hk : Rows.uptoSmall H l = true) : Rows.uptoBulkAll l ≤ 1048576 := of_decide_eq_true hk
theorem bulk_two {H : Type} : ∀ {l : List (DataW H)} {i j : Nat} {x y : DataW H}, i < j → l[i]? = some x → l[j]? = some y → Rows.uptoBulk x + Rows.uptoBulk y ≤ Rows.uptoBulkAll l
  | [], _, _, _, _, _, h, _ => by simp at h
  | d :: l, 0, 0, _, _, h, _, _ => by omega
  | d :: l, 0, j + 1, x, y, _, h1, h2 => by
    simp at h1 h2
    subst h1
    have := bulk_part (List.mem_of_getElem? h2)
    simp only [Rows.uptoBulkAll]
    omega
  | d :: l, i + 1, 0, _, _, h, _, _ => by omega
  | d :: l, i + 1, j + 1, x, y, h, h1, h2 => by
    simp at h1 h2
    have := bulk_two (show i < j by omega) h1 h2
    simp only [Rows.uptoBulkAll]
    omega
section
variable {H : Type} {enc : TypeId × Value → H} {P : Program} {w : World} {base : Nat} {held : Bool} {k : Nat} {x : DataW H × List MemPlace}
theorem nums_of {kd : IntKind} {t e : TypeId} {v : Value} (ht : P.underlying t = some (.slice e)) (he : P.underlying e = some (.int kd)) (hc : P.cellsOf e = 1) (h : DataW.trod enc P w base (fun _ => true) held k t [v] = some x) : ∃ a n c z, v = .slice a n c ∧ RdAt kd w a n c z ∧ z.length + 1 ≤ Rows.uptoBulk x.1 := by
  rcases open_ints ht he hc h with ⟨hcs, _⟩ | ⟨y, l, c, zs, hcs, _, hl, hm, hz, hx, hcell, hwz⟩
  · simp at hcs
    exact ⟨none, 0, 0, [], hcs, RdAt.nil _ _, by have := bulk_one x.1; simpa using this⟩
  · simp at hcs
    refine ⟨_, _, _, _, hcs, RdAt.of_row hl hm (by simpa using hz) hcell hwz, ?_⟩
    rw [hx]
    have h1 := bulk_slice (H := H) ((zs.take l).map fun n => .lit (.int kd n)) ((zs.drop l).map fun n => .lit (.int kd n))
    have h2 := bulk_length (H := H) ((zs.take l).map fun n => .lit (.int kd n))
    rw [List.length_map] at h2
    exact Nat.le_trans (Nat.succ_le_succ h2) h1
end
end Go.Proofs.Ytnlhpfcepbmbfaa
