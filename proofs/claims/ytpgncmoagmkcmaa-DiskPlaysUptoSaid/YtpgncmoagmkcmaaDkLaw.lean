/- A disk: what it is, what becomes of it; where it lies. -/
import Derived.Test.YtpgncmoagmkcmaaDkMap
import Derived.Test.YtpgncmoagmkcmaaClone
import Derived.Test.YtpgncmoagmkcmaaVarAt
namespace Go.Proofs.Ytpgncmoagmkcmaa
open Go.RowKit
structure Dk where
  off : Bool
  armed : Int
  keep : List Bool
  size : Nat
  kept : List (List Int)
  pend : List (Int × List Int)
  writes : Int
  reads : Int
/-- Which pending write of a sector is the last. -/
def lastR : List (Int × List Int) → Int → Option Int
  | [], _ => none
  | (t, _) :: r, s => if s = t then some ((r.length : Nat) : Int) else lastR r s
def lastOf (p : List (Int × List Int)) (s : Int) : Option Int := lastR p.reverse s
theorem lastOf_snoc (p : List (Int × List Int)) (t : Int) (b : List Int) (s : Int) : lastOf (p ++ [(t, b)]) s = if s = t then some ((p.length : Nat) : Int) else lastOf p s := by
  unfold lastOf
  rw [List.reverse_append, List.reverse_singleton, List.singleton_append, lastR, List.length_reverse]
theorem lastR_some : ∀ {p : List (Int × List Int)} {s i : Int}, lastR p s = some i → ∃ k : Nat, i = k ∧ k < p.length ∧ ∃ b, p.reverse[k]? = some (s, b)
  | (t, b) :: r, s, i, h => by
    rw [lastR] at h
    split at h
    · rename_i e
      injection h with h
      refine ⟨r.length, h.symm, by simp, b, ?_⟩
      rw [List.reverse_cons, List.getElem?_append_right (by simp), e]
      simp
    · obtain ⟨k, h1, h2, b', h3⟩ := lastR_some h
      refine ⟨k, h1, by simp; omega, b', ?_⟩
      rw [List.reverse_cons, List.getElem?_append_left (by simpa using h2)]
      exact h3
theorem lastOf_some {p : List (Int × List Int)} {s i : Int} (h : lastOf p s = some i) : ∃ k : Nat, i = k ∧ k < p.length ∧ ∃ b, p[k]? = some (s, b) := by
  obtain ⟨k, h1, h2, b, h3⟩ := lastR_some h
  exact ⟨k, h1, by simpa using h2, b, by simpa using h3⟩
/-- Pending writes kept: those of which κ tells true. -/
def settleK (κ : Nat → Bool) : Nat → List (Int × List Int) → List (List Int) → List (List Int)
  | _, [], k => k
  | i, (s, b) :: r, k => settleK κ (i + 1) r (if κ i then k.set s.toNat b else k)
theorem settleK_len (κ : Nat → Bool) : ∀ (p : List (Int × List Int)) (i : Nat) (k : List (List Int)), (settleK κ i p k).length = k.length
  | [], _, _ => rfl
  | (s, b) :: r, i, k => by
    rw [settleK, settleK_len κ r]
    split
    · rw [List.length_set]
    · rfl
def cutS (st : Dk) (keep : List Bool) : Dk := { st with off := true, armed := 0, kept := settleK (fun i => keep.getD i false) 0 st.pend st.kept, pend := [] }
def flushS (st : Dk) : Dk := { st with kept := settleK (fun _ => true) 0 st.pend st.kept, pend := [] }
/-- A sector that there is, and a whole one's bytes. -/
def fitW (st : Dk) (s : Int) (l : List Int) : Bool := decide (0 ≤ s) && decide (s < st.kept.length) && decide (l.length = st.size)
def wrE (st : Dk) (s : Int) (l : List Int) : Int := if st.off then 8 else if fitW st s l = false then 1 else if st.armed = 1 then 8 else 0
def putS (st : Dk) (s : Int) (l : List Int) : Dk := { st with armed := if st.armed = 0 then 0 else st.armed - 1, pend := st.pend ++ [(s, l)], writes := st.writes + 1 }
def wrS (st : Dk) (s : Int) (l : List Int) : Dk := if st.off then st else if fitW st s l = false then st else if st.armed = 1 then cutS st st.keep else putS st s l
/-- The bytes that a sector reads as. -/
def secB (st : Dk) (s : Nat) : List Int := match lastOf st.pend s with
  | some i => ((st.pend[i.toNat]?).map (·.2)).getD []
  | none => (st.kept[s]?).getD []
def inS (st : Dk) (s : Int) : Bool := decide (0 ≤ s) && decide (s < st.kept.length)
def rdE (st : Dk) (s : Int) : Int := if st.off then 8 else if inS st s = false then 1 else 0
def rdS (st : Dk) (s : Int) : Dk := if rdE st s = 0 then { st with reads := st.reads + 1 } else st
def rdV (st : Dk) (s : Int) : List Int := if rdE st s = 0 then secB st s.toNat else []
/-- A disk's shape, and what it holds, as they may be. -/
structure DkOk (st : Dk) : Prop where
  size : 64 ≤ st.size ∧ st.size ≤ 4096
  n : 1 ≤ st.kept.length ∧ st.kept.length ≤ 65536
  kept : ∀ l ∈ st.kept, l.length = st.size
  pend : ∀ p ∈ st.pend, p.2.length = st.size ∧ 0 ≤ p.1 ∧ p.1 < st.kept.length
  armed : 0 ≤ st.armed ∧ st.armed ≤ 9223372036854775807
  few : st.pend.length ≤ 1000000
  writes : 0 ≤ st.writes ∧ st.writes ≤ 4611686018427387904
  reads : 0 ≤ st.reads ∧ st.reads ≤ 4611686018427387904
/-- Two rows of one length, each pair so. -/
def All2 {α β : Type} (R : α → β → Prop) (l : List α) (r : List β) : Prop := l.length = r.length ∧ ∀ (i : Nat) (a : α) (b : β), l[i]? = some a → r[i]? = some b → R a b
theorem All2.imp {α β : Type} {R S : α → β → Prop} {l : List α} {r : List β} (h : All2 R l r) (f : ∀ a b, R a b → S a b) : All2 S l r := ⟨h.1, fun i a b h1 h2 => f a b (h.2 i a b h1 h2)⟩
theorem All2.snoc {α β : Type} {R : α → β → Prop} {l : List α} {r : List β} {a : α} {b : β} (h : All2 R l r) (hab : R a b) : All2 R (l ++ [a]) (r ++ [b]) := by
  refine ⟨by rw [List.length_append, List.length_append, h.1]; rfl, fun i x y hx hy => ?_⟩
  by_cases hi : i < l.length
  · rw [List.getElem?_append_left hi] at hx
    rw [List.getElem?_append_left (by rw [← h.1]; exact hi)] at hy
    exact h.2 i x y hx hy
  · rw [List.getElem?_append_right (by omega)] at hx
    rw [List.getElem?_append_right (by rw [← h.1]; omega), ← h.1] at hy
    by_cases h0 : i - l.length = 0
    · rw [h0] at hx hy
      simp at hx hy
      rw [← hx, ← hy]; exact hab
    · obtain ⟨k, hk⟩ : ∃ k, i - l.length = k + 1 := ⟨i - l.length - 1, by omega⟩
      rw [hk] at hx
      simp at hx
theorem All2.set {α β : Type} {R : α → β → Prop} {l : List α} {r : List β} {a : α} {b : β} (h : All2 R l r) (k : Nat) (hab : R a b) : All2 R (l.set k a) (r.set k b) := by
  refine ⟨by rw [List.length_set, List.length_set, h.1], fun i x y hx hy => ?_⟩
  rw [List.getElem?_set] at hx hy
  by_cases hi : k = i
  · rw [if_pos hi] at hx hy
    split at hx
    · split at hy
      · injection hx with hx
        injection hy with hy
        rw [← hx, ← hy]; exact hab
      · cases hy
    · cases hx
  · rw [if_neg hi] at hx hy
    exact h.2 i x y hx hy
theorem All2.get {α β : Type} {R : α → β → Prop} {l : List α} {r : List β} (h : All2 R l r) {i : Nat} {b : β} (hb : r[i]? = some b) : ∃ a, l[i]? = some a ∧ R a b := by
  have hi : i < r.length := (List.getElem?_eq_some_iff.1 hb).1
  have hl : i < l.length := by rw [h.1]; exact hi
  exact ⟨l[i], List.getElem?_eq_getElem hl, h.2 i _ _ (List.getElem?_eq_getElem hl) hb⟩
theorem All2.nil {α β : Type} (R : α → β → Prop) : All2 R ([] : List α) ([] : List β) := ⟨rfl, fun i a b h => by simp at h⟩
/-- A slice of some bytes, in a block that is none of M, and one of Z. -/
def SlcV (w : World) (M Z : Nat → Prop) (v : Value) (l : List Int) : Prop :=
  ∃ b o n c, v = .slice (some ⟨b, o, none⟩) n c ∧ RdAt .u8 w (some ⟨b, o, none⟩) n c l ∧ 0 < n ∧ ¬ M b ∧ Z b
/-- A sector's bytes: none yet, or a slice of them. -/
def SecV (w : World) (M Z : Nat → Prop) (size : Nat) (v : Value) (l : List Int) : Prop := (v = .slice none 0 0 ∧ l = List.replicate size 0) ∨ SlcV w M Z v l
/-- A slice of bools. -/
structure RdB (w : World) (a : Option Addr) (n c : Nat) (l : List Bool) : Prop where
  len : l.length = n
  cap : n ≤ c
  max : c ≤ maxLen
  cell : ∀ i, i < n → ∃ b o, a = some ⟨b, o, none⟩ ∧ w.cell? ⟨b, o + i, none⟩ = some (.bool (l.getD i false))
  void : a = none → c = 0
def KeepV (w : World) (M Z : Nat → Prop) (v : Value) (l : List Bool) : Prop := ∃ a n c, v = .slice a n c ∧ RdB w a n c l ∧ ∀ q, a = some q → 0 < n → ¬ M q.block ∧ Z q.block
/-- The pending writes' cells. -/
def pendC : List (Int × List Int) → List Value → List Value
  | p :: r, v :: t => .int .i64 p.1 :: v :: pendC r t
  | _, _ => []
/-- The blocks that a disk writes. -/
def MutD (d kb mb : Nat) (pv : Value) (b : Nat) : Prop := b = d ∨ b = kb ∨ b = mb ∨ pv.ownBlock = some b
structure DkP (w : World) (Z : Nat → Prop) (d kb mb : Nat) (pv kv : Value) (vals pvs : List Value) (st : Dk) : Prop where
  row : w.heap[d]? = some (.cells #[.bool st.off, .int .i64 st.armed, kv, .int .i64 st.size, .slice (some ⟨kb, 0, none⟩) st.kept.length st.kept.length, pv, .map (some mb), .int .i64 st.writes, .int .i64 st.reads] 37 (0, 0))
  krow : w.heap[kb]? = some (.cells vals.toArray 22 (0, 0))
  kvals : All2 (SecV w (MutD d kb mb pv) Z st.size) vals st.kept
  prow : w.ownsRow 0 76 2 pv st.pend.length (pendC st.pend pvs)
  pvals : All2 (fun v (p : Int × List Int) => SlcV w (MutD d kb mb pv) Z v p.2) pvs st.pend
  map : MapAt w mb (lastOf st.pend)
  keep : KeepV w (MutD d kb mb pv) Z kv st.keep
  ne : d ≠ kb ∧ d ≠ mb ∧ kb ≠ mb
  rm : ∀ g, pv.ownBlock = some g → g ≠ d ∧ g ≠ kb ∧ g ≠ mb
  z : ∀ b, MutD d kb mb pv b → Z b
  ok : DkOk st
/-- A disk in block d; all that it is made of lies in Z. -/
def DkIn (w : World) (Z : Nat → Prop) (d : Nat) (st : Dk) : Prop := (∀ k, Z k → k < w.heap.size) ∧ ∃ kb mb pv kv vals pvs, DkP w Z d kb mb pv kv vals pvs st
/-- Nothing has turned outside Z; what Z is now was in it, or is new. -/
structure Tnd (Z Z' : Nat → Prop) (w w' : World) : Prop where
  os : w'.os = w.os
  tape : w'.tape = w.tape
  output : w'.output = w.output
  size : w.heap.size ≤ w'.heap.size
  block : ∀ k, k < w.heap.size → ¬ Z k → w'.heap[k]? = w.heap[k]?
  sub : ∀ k, Z' k → Z k ∨ w.heap.size ≤ k
theorem Tnd.refl (Z : Nat → Prop) (w : World) : Tnd Z Z w w := ⟨rfl, rfl, rfl, Nat.le_refl _, fun _ _ _ => rfl, fun _ h => .inl h⟩
theorem Tnd.below {Z Z' : Nat → Prop} {w w' : World} {B : Nat} (h : Tnd Z Z' w w') (hZ : ∀ k, Z k → B ≤ k) (hB : B ≤ w.heap.size) : Below B w w' :=
  ⟨h.os, h.tape, h.output, h.size, fun k hk => h.block k (by omega) (fun hz => by have := hZ k hz; omega)⟩
theorem Tnd.base {Z Z' : Nat → Prop} {w w' : World} {B : Nat} (h : Tnd Z Z' w w') (hZ : ∀ k, Z k → B ≤ k) (hB : B ≤ w.heap.size) : ∀ k, Z' k → B ≤ k := fun k hk => by
  rcases h.sub k hk with h1 | h1
  · exact hZ k h1
  · omega
theorem RdAt.at {k : IntKind} {w w' : World} {b o n c : Nat} {l : List Int} (r : RdAt k w (some ⟨b, o, none⟩) n c l) (h : w'.heap[b]? = w.heap[b]?) : RdAt k w' (some ⟨b, o, none⟩) n c l :=
  ⟨r.len, r.cap, r.max, fun i hi => by
    obtain ⟨b', o', e, hc⟩ := r.cell i hi
    injection e with e
    injection e with e1 e2
    subst e1 e2
    exact ⟨b, o, rfl, by rw [← hc]; exact World.cell?_of_block (a := ⟨b, o + i, none⟩) h⟩, r.wf, r.void⟩
theorem SlcV.at {w w' : World} {M M' Z Z' : Nat → Prop} {v : Value} {l : List Int} (h : SlcV w M Z v l) (hb : ∀ b, Z b → ¬ M b → w'.heap[b]? = w.heap[b]?) (hM : ∀ b, Z b → ¬ M b → ¬ M' b) (hZ : ∀ b, Z b → Z' b) : SlcV w' M' Z' v l := by
  obtain ⟨b, o, n, c, rfl, hr, hn, hm, hz⟩ := h
  exact ⟨b, o, n, c, rfl, hr.at (hb b hz hm), hn, hM b hz hm, hZ b hz⟩
theorem SecV.at {w w' : World} {M M' Z Z' : Nat → Prop} {size : Nat} {v : Value} {l : List Int} (h : SecV w M Z size v l) (hb : ∀ b, Z b → ¬ M b → w'.heap[b]? = w.heap[b]?) (hM : ∀ b, Z b → ¬ M b → ¬ M' b) (hZ : ∀ b, Z b → Z' b) : SecV w' M' Z' size v l :=
  h.imp id fun h => h.at hb hM hZ
theorem KeepV.at {w w' : World} {M M' Z Z' : Nat → Prop} {v : Value} {l : List Bool} (h : KeepV w M Z v l) (hb : ∀ b, Z b → ¬ M b → w'.heap[b]? = w.heap[b]?) (hM : ∀ b, Z b → ¬ M b → ¬ M' b) (hZ : ∀ b, Z b → Z' b) : KeepV w' M' Z' v l := by
  obtain ⟨a, n, c, rfl, hr, hq⟩ := h
  refine ⟨a, n, c, rfl, ⟨hr.len, hr.cap, hr.max, fun i hi => ?_, hr.void⟩, fun q h1 h2 => ⟨hM _ (hq q h1 h2).2 (hq q h1 h2).1, hZ _ (hq q h1 h2).2⟩⟩
  obtain ⟨b, o, e, hc⟩ := hr.cell i hi
  have := hq _ e (by omega)
  exact ⟨b, o, e, by rw [← hc]; exact World.cell?_of_block (a := ⟨b, o + i, none⟩) (hb b this.2 this.1)⟩
theorem ownsRow_at {w w' : World} {e : TypeId} {size n : Nat} {v : Value} {xs : List Value} (h : w.ownsRow 0 e size v n xs) (hb : ∀ g, v.ownBlock = some g → w'.heap[g]? = w.heap[g]?) : w'.ownsRow 0 e size v n xs := by
  refine ⟨h.1, ?_⟩
  rcases h.2 with ⟨h1, h2⟩ | ⟨g, cap, cur, hv, h0, hh, h3⟩
  · exact .inl ⟨h1, h2⟩
  · exact .inr ⟨g, cap, cur, hv, h0, by rw [hb g (by rw [hv]; rfl)]; exact hh, h3⟩
end Go.Proofs.Ytpgncmoagmkcmaa
