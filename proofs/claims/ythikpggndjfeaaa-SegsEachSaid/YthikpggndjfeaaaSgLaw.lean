/- segs: the table's plain law. -/
import Derived.Test.YthikpggndjfeaaaSgMap
import Derived.WalkArith
import Derived.Lib.Hide
namespace Go.Proofs.Ythikpggndjfeaaa
open Go.RowKit
def getE (L : List Ent) (k : Int) : Ent := if 0 ≤ k then (L[k.toNat]?).getD ent0 else ent0
def fL (L : List Ent) (k : Int) : Option Ent := if (getE L k).st = 0 then none else some (getE L k)
def setE (L : List Ent) (k : Int) (e : Ent) : List Ent := L.set k.toNat e
def inE (L : List Ent) (k : Int) : Bool := decide (0 ≤ k) && decide (k < (L.length : Int))
structure EntOk (e : Ent) : Prop where
  zero : e.st = 0 → e = ent0
  us : 0 ≤ e.us ∧ e.us ≤ 1073741824
structure LOk (L : List Ent) : Prop where
  n : 1 ≤ L.length ∧ L.length ≤ 65536
  all : ∀ e ∈ L, EntOk e
theorem ent0_ok : EntOk ent0 := ⟨fun _ => rfl, by decide⟩
theorem getE_nat (L : List Ent) (k : Nat) : getE L k = (L[k]?).getD ent0 := by
  unfold getE
  rw [if_pos (Int.natCast_nonneg k), Int.toNat_natCast]
theorem getE_ok {L : List Ent} (h : LOk L) (k : Int) : EntOk (getE L k) := by
  unfold getE
  split
  · cases hk : L[k.toNat]? with
    | none => exact ent0_ok
    | some e => exact h.all e (List.mem_of_getElem? hk)
  · exact ent0_ok
theorem getE_out {L : List Ent} {k : Int} (h : inE L k = false) : getE L k = ent0 := by
  unfold inE at h
  unfold getE
  by_cases h0 : 0 ≤ k
  · rw [decide_eq_true h0, Bool.true_and] at h
    have := of_decide_eq_false h
    rw [if_pos h0, List.getElem?_eq_none (by omega)]
    rfl
  · rw [if_neg h0]
theorem inE_yes {L : List Ent} {k : Int} (h : inE L k = true) : 0 ≤ k ∧ k < (L.length : Int) := by
  unfold inE at h
  simp only [Bool.and_eq_true, decide_eq_true_eq] at h
  exact h
theorem inE_of {L : List Ent} {k : Int} (h : 0 ≤ k ∧ k < (L.length : Int)) : inE L k = true := by
  unfold inE
  rw [decide_eq_true h.1, decide_eq_true h.2]
  rfl
theorem fL_get {L : List Ent} (h : LOk L) (k : Int) : (fL L k).getD ent0 = getE L k := by
  unfold fL
  split
  · rename_i h0
    rw [(getE_ok h k).zero h0]
    rfl
  · rfl
theorem get_set {L : List Ent} {k : Int} (h : inE L k = true) (e : Ent) (t : Int) : getE (setE L k e) t = if t = k then e else getE L t := by
  obtain ⟨h1, h2⟩ := inE_yes h
  unfold getE setE
  by_cases ht : 0 ≤ t
  · rw [if_pos ht, if_pos ht]
    by_cases hk : t = k
    · subst hk
      rw [if_pos rfl, List.getElem?_set_self (by omega)]
      rfl
    · rw [if_neg hk, List.getElem?_set_ne (by omega)]
  · rw [if_neg ht, if_neg ht, if_neg (by omega)]
theorem set_ok {L : List Ent} (h : LOk L) (k : Int) {e : Ent} (he : EntOk e) : LOk (setE L k e) := by
  refine ⟨by unfold setE; rw [List.length_set]; exact h.n, fun x hx => ?_⟩
  rcases List.mem_or_eq_of_mem_set hx with h1 | h1
  · exact h.all x h1
  · rw [h1]; exact he
theorem set_len (L : List Ent) (k : Int) (e : Ent) : (setE L k e).length = L.length := List.length_set
theorem fL_put {L : List Ent} {k : Int} (h : inE L k = true) {e : Ent} (he : e.st ≠ 0) (t : Int) : putE (fL L) k e t = fL (setE L k e) t := by
  unfold putE fL
  rw [get_set h]
  by_cases hk : t = k
  · rw [if_pos hk, if_pos hk, if_neg he]
  · rw [if_neg hk, if_neg hk]
theorem fL_del {L : List Ent} {k : Int} (h : inE L k = true) (t : Int) : delE (fL L) k t = fL (setE L k ent0) t := by
  unfold delE fL
  rw [get_set h]
  by_cases hk : t = k
  · rw [if_pos hk, if_pos hk, if_pos (show ent0.st = 0 from rfl)]
  · rw [if_neg hk, if_neg hk]
/-- The least free one. -/
def freeI : List Ent → Nat
  | [] => 0
  | e :: r => if e.st = 0 then 0 else freeI r + 1
theorem freeI_le : ∀ L : List Ent, freeI L ≤ L.length
  | [] => Nat.le_refl _
  | e :: r => by
    unfold freeI
    have := freeI_le r
    split
    · omega
    · simp only [List.length_cons]; omega
theorem freeI_lt : ∀ (L : List Ent) (j : Nat), j < freeI L → ((L[j]?).getD ent0).st ≠ 0
  | [], j, h => by unfold freeI at h; omega
  | e :: r, j, h => by
    unfold freeI at h
    split at h
    · omega
    · rename_i h0
      cases j with
      | zero => exact h0
      | succ j => exact freeI_lt r j (by omega)
theorem freeI_at : ∀ (L : List Ent), freeI L < L.length → ((L[freeI L]?).getD ent0).st = 0
  | [], h => by simp at h
  | e :: r, h => by
    unfold freeI at h ⊢
    split
    · rename_i h0
      exact h0
    · rename_i h0
      rw [if_neg h0] at h
      exact freeI_at r (by simp only [List.length_cons] at h; omega)
def takeR (L : List Ent) : Int := if freeI L < L.length then freeI L else 0
def takeX (L : List Ent) : Int := if freeI L < L.length then 0 else 10
def takeS (L : List Ent) : List Ent := if freeI L < L.length then setE L (freeI L) ⟨1, 0, 0⟩ else L
def fillX (L : List Ent) (k : Int) : Int := if inE L k = true then (if (getE L k).st = 1 then 0 else 9) else 2
def fillS (L : List Ent) (k : Int) : List Ent := if inE L k = true then (if (getE L k).st = 1 then setE L k ⟨2, (getE L k).us, (getE L k).ep⟩ else L) else L
def holdX (L : List Ent) (k : Int) : Int := if inE L k = true then (if (getE L k).st = 2 then 0 else 9) else 2
def holdS (L : List Ent) (k p : Int) : List Ent := if inE L k = true then (if (getE L k).st = 2 then setE L k ⟨3, (getE L k).us, p⟩ else L) else L
def addX (L : List Ent) (k n : Int) : Int := if inE L k = true then (if (getE L k).st = 0 then 9 else if n < - (getE L k).us ∨ 1073741824 - (getE L k).us < n then 1 else 0) else 2
def addS (L : List Ent) (k n : Int) : List Ent := if inE L k = true then (if (getE L k).st = 0 then L else if n < - (getE L k).us ∨ 1073741824 - (getE L k).us < n then L else setE L k ⟨(getE L k).st, (getE L k).us + n, (getE L k).ep⟩) else L
def stE (L : List Ent) (k : Int) : Int := if inE L k = true then (getE L k).st else -1
/-- Held, its epoch not above p. -/
def goes (p : Int) (e : Ent) : Bool := decide (e.st = 3) && decide (e.ep ≤ p)
def relS (L : List Ent) (p : Int) : List Ent := L.map fun e => if goes p e = true then ent0 else e
def relL (L : List Ent) (p : Int) : List Int := ((List.range L.length).filter fun (k : Nat) => goes p (getE L (k : Int))).map Int.ofNat
def cntL (L : List Ent) (s : Int) : Nat := (L.filter fun e => decide (e.st = s)).length
theorem takeS_ok {L : List Ent} (h : LOk L) : LOk (takeS L) := by
  unfold takeS
  split
  · exact set_ok h _ ⟨fun q => absurd q (by decide), by decide⟩
  · exact h
theorem relS_ok {L : List Ent} (h : LOk L) (p : Int) : LOk (relS L p) := by
  refine ⟨by unfold relS; rw [List.length_map]; exact h.n, fun e he => ?_⟩
  obtain ⟨x, hx, rfl⟩ := List.mem_map.1 he
  split
  · exact ent0_ok
  · exact h.all x hx
theorem rep_ok {n : Nat} (h1 : 1 ≤ n) (h2 : n ≤ 65536) : LOk (List.replicate n ent0) :=
  ⟨by rw [List.length_replicate]; exact ⟨h1, h2⟩, fun e he => by rw [(List.mem_replicate.1 he).2]; exact ent0_ok⟩
theorem getE_rep (n : Nat) (k : Int) : getE (List.replicate n ent0) k = ent0 := by
  unfold getE
  split
  · rw [List.getElem?_replicate]
    split <;> rfl
  · rfl
/-- A table in memory: its row in block d, its map in block mb. -/
structure TbIn (w : World) (d mb : Nat) (L : List Ent) : Prop where
  row : w.heap[d]? = some (.cells #[.int .i64 L.length, .map (some mb)] 59 (0, 0))
  map : MapE w mb (fL L)
  ok : LOk L
section
variable {w w' : World} {d mb : Nat} {L : List Ent}
theorem TbIn.lt (h : TbIn w d mb L) : d < w.heap.size := (Array.getElem?_eq_some_iff.1 h.row).1
theorem TbIn.ne (h : TbIn w d mb L) : d ≠ mb := fun e => by
  obtain ⟨es, c, hb, _⟩ := h.map.all
  have := h.row
  rw [e, hb] at this
  cases this
theorem TbIn.grown {row : Option Nat} (h : TbIn w d mb L) (hg : w.grownBy w' row) (hd : some d ≠ row) (hm : some mb ≠ row) : TbIn w' d mb L :=
  ⟨(hg.block d h.lt hd).trans h.row, h.map.grown hg hm, h.ok⟩
theorem TbIn.below (h : TbIn w d mb L) (hb : Below w.heap.size w w') : TbIn w' d mb L :=
  ⟨(hb.block d h.lt).trans h.row, h.map.at (hb.block mb h.map.lt), h.ok⟩
theorem TbIn.c0 (h : TbIn w d mb L) : w.cell? ⟨d, 0, none⟩ = some (.int .i64 L.length) := by simp [World.cell?, h.row]
theorem TbIn.c1 (h : TbIn w d mb L) : w.cell? ⟨d, 1, none⟩ = some (.map (some mb)) := by simp [World.cell?, h.row]
set_option maxRecDepth 100000 in
theorem TbIn.look (h : TbIn w d mb L) (k : Int) (hk : (Lit.int .i64 k).wf = true) :
    (Instr.lookup 57 (.map (some mb)) (.agg #[.int .i64 k]) false).run Try.prog w = .ok (.agg #[.int .i64 (getE L k).st, .int .i64 (getE L k).us, .int .i64 (getE L k).ep]) w := by
  have := me_look h.map k hk
  rw [fL_get h.ok] at this
  exact this
set_option maxRecDepth 100000 in
/-- What a step on the table leaves: nothing that was there has turned, but the map. -/
theorem TbIn.put (h : TbIn w d mb L) (k : Int) (e : Ent) (hk : inE L k = true) (he : e.st ≠ 0) (hok : EntOk e) :
    ∃ w', (Instr.mapUpdate 57 (.map (some mb)) (.agg #[.int .i64 k]) (.agg #[.int .i64 e.st, .int .i64 e.us, .int .i64 e.ep])).run Try.prog w = .ok () w' ∧ TbIn w' d mb (setE L k e) ∧ w.grownBy w' (some mb) := by
  obtain ⟨h1, h2⟩ := inE_yes hk
  have hn := h.ok.n
  obtain ⟨w', r, m, g⟩ := me_put h.map k e (WalkArith.wf_i64 ⟨by omega, by omega⟩)
  refine ⟨w', r, ⟨?_, m.congr (fun s => fL_put hk he s), set_ok h.ok k hok⟩, g⟩
  rw [g.block d h.lt (fun q => h.ne (by injection q)), h.row, set_len]
end
end Go.Proofs.Ythikpggndjfeaaa
