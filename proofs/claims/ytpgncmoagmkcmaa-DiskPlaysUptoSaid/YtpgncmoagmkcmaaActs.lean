/- Opening a slice of acts. -/
import Derived.Test.YtpgncmoagmkcmaaBools
import Derived.Test.YtpgncmoagmkcmaaDkLaw
import Derived.WalkKit
import Derived.ProofKit
import Derived.OpenShut
import Derived.Deep.Slices
import Derived.Test.YtpgncmoagmkcmaaRows
namespace Go.Proofs.Ytpgncmoagmkcmaa
open Go.ChangeShapes Go.WideShapes Go.ChangeAt Go.RowKit
theorem bulk_one {H : Type} (d : DataW H) : 1 ≤ Rows.uptoBulk d := by
  cases d with
  | lit l => cases l <;> simp [Rows.uptoBulk]
  | nil => simp [Rows.uptoBulk]
  | ptr d => simp [Rows.uptoBulk]
  | slice elems spare => simp [Rows.uptoBulk]
  | agg parts => simp [Rows.uptoBulk]
  | iface t d => simp [Rows.uptoBulk]
  | map entries => simp [Rows.uptoBulk]
  | held h => simp [Rows.uptoBulk]
theorem bulk_length {H : Type} (l : List (DataW H)) : l.length ≤ Rows.uptoBulkAll l := by
  induction l with
  | nil => simp [Rows.uptoBulkAll]
  | cons x r ih => have := bulk_one x; simp only [Rows.uptoBulkAll, List.length_cons]; omega
theorem bulk_slice {H : Type} (elems spare : List (DataW H)) : Rows.uptoBulkAll elems + 1 ≤ Rows.uptoBulk (.slice elems spare) := by
  simp only [Rows.uptoBulk]; omega
theorem bulk_part {H : Type} {d : DataW H} {l : List (DataW H)} (h : d ∈ l) : Rows.uptoBulk d ≤ Rows.uptoBulkAll l := by
  induction l with
  | nil => cases h
  | cons x r ih =>
    simp only [Rows.uptoBulkAll]
    cases List.mem_cons.1 h with
    | inl e => subst e; omega
    | inr e => have := ih e; omega
theorem bulk_bound {H : Type} {l : List (DataW H)} (hk : Rows.uptoSmall H l = true) : Rows.uptoBulkAll l ≤ 1048576 := of_decide_eq_true hk
structure ActP where
  op : Int
  sec : Int
  fill : Int
  bytes : List Int
  n : Int
  keep : List Bool
  pat : Int
instance : Inhabited ActP := ⟨⟨0, 0, 0, [], 0, [], 0⟩⟩
/-- One act's seven cells from off on in block b. -/
structure ActAt (w : World) (b off : Nat) (A : ActP) : Prop where
  ex : ∃ ba bn bc ka kn kc, w.cell? ⟨b, off, none⟩ = some (.int .i64 A.op) ∧ w.cell? ⟨b, off + 1, none⟩ = some (.int .i64 A.sec) ∧ w.cell? ⟨b, off + 2, none⟩ = some (.int .u8 A.fill) ∧ w.cell? ⟨b, off + 3, none⟩ = some (.slice ba bn bc) ∧ w.cell? ⟨b, off + 4, none⟩ = some (.int .i64 A.n) ∧ w.cell? ⟨b, off + 5, none⟩ = some (.slice ka kn kc) ∧ w.cell? ⟨b, off + 6, none⟩ = some (.int .u32 A.pat) ∧
    RdAt .u8 w ba bn bc A.bytes ∧ RdB w ka kn kc A.keep
  wf : (Lit.int .i64 A.op).wf = true ∧ (Lit.int .i64 A.sec).wf = true ∧ (Lit.int .u8 A.fill).wf = true ∧ (Lit.int .i64 A.n).wf = true ∧ (Lit.int .u32 A.pat).wf = true
structure ActsAt (w : World) (a : Option Addr) (n : Nat) (L : List ActP) : Prop where
  len : L.length = n
  at_ : ∀ i A, L[i]? = some A → ∃ b o, a = some ⟨b, o, none⟩ ∧ ActAt w b (o + i * 7) A
section
variable {H : Type} {enc : TypeId × Value → H} {P : Program} {w : World} {base : Nat} {held : Bool} {k : Nat} {x : DataW H × List MemPlace}
theorem bytes_of {t e : TypeId} {v : Value} (ht : P.underlying t = some (.slice e)) (he : P.underlying e = some (.int .u8)) (hc : P.cellsOf e = 1) (h : DataW.trod enc P w base (fun _ => true) held k t [v] = some x) : ∃ a n c z, v = .slice a n c ∧ RdAt .u8 w a n c z ∧ z.length + 1 ≤ Rows.uptoBulk x.1 := by
  rcases open_ints ht he hc h with ⟨hcs, _⟩ | ⟨y, l, c, zs, hcs, _, hl, hm, hz, hx, hcell, hwz⟩
  · simp at hcs
    exact ⟨none, 0, 0, [], hcs, RdAt.nil _ _, by have := bulk_one x.1; simpa using this⟩
  · simp at hcs
    refine ⟨_, _, _, _, hcs, RdAt.of_row hl hm (by simpa using hz) hcell hwz, ?_⟩
    rw [hx]
    have h1 := bulk_slice (H := H) ((zs.take l).map fun n => .lit (.int .u8 n)) ((zs.drop l).map fun n => .lit (.int .u8 n))
    have h2 := bulk_length (H := H) ((zs.take l).map fun n => .lit (.int .u8 n))
    rw [List.length_map] at h2
    exact Nat.le_trans (Nat.succ_le_succ h2) h1
theorem bools_of {t e : TypeId} {v : Value} (ht : P.underlying t = some (.slice e)) (he : P.underlying e = some .bool) (hc : P.cellsOf e = 1) (h : DataW.trod enc P w base (fun _ => true) held k t [v] = some x) : ∃ a n c z, v = .slice a n c ∧ RdB w a n c z ∧ z.length + 1 ≤ Rows.uptoBulk x.1 := by
  rcases Go.Deep.open_bools ht he hc h with ⟨hcs, _⟩ | ⟨y, l, c, B, hcs, _, hl, hm, hx, hcell⟩
  · simp at hcs
    exact ⟨none, 0, 0, [], hcs, ⟨rfl, Nat.le_refl _, by unfold maxLen; omega, fun i hi => by omega, fun _ => rfl⟩, by have := bulk_one x.1; simpa using this⟩
  · simp at hcs
    subst hcs
    obtain ⟨d, q⟩ := x
    obtain ⟨z, hz⟩ := bools_open (d := d) (p := q) ht he hc ⟨k, by simpa [Value.cells] using h⟩
    refine ⟨_, _, _, z, rfl, hz, ?_⟩
    rw [Prod.mk.injEq] at hx
    rw [show d = _ from hx.1, hz.len]
    have h1 := bulk_slice (H := H) ((List.range l).map fun i => .lit (.bool (B i))) ((List.range (c - l)).map fun j => .lit (.bool (B (l + j))))
    have h2 := bulk_length (H := H) ((List.range l).map fun i => .lit (.bool (B i)))
    rw [List.length_map, List.length_range] at h2
    exact Nat.le_trans (Nat.succ_le_succ h2) h1
end
def sumA : List ActP → Nat
  | [] => 0
  | A :: r => A.bytes.length + A.keep.length + sumA r
theorem bulk_acts {H : Type} (R : List Nat) (f : Nat → ActP) (g : Nat → DataW H) (h : ∀ r ∈ R, (f r).bytes.length + (f r).keep.length + 1 ≤ Rows.uptoBulk (g r)) : sumA (R.map f) + R.length ≤ Rows.uptoBulkAll (R.map g) := by
  induction R with
  | nil => simp [Rows.uptoBulkAll, sumA]
  | cons x R ih =>
    have h1 := h x (by simp)
    have h2 := ih (fun r hr => h r (by simp [hr]))
    rw [List.map_cons, List.map_cons, List.length_cons]
    simp only [Rows.uptoBulkAll, sumA]
    omega
theorem bulk_two {H : Type} : ∀ {l : List (DataW H)} {i j : Nat} {x y : DataW H}, i < j → l[i]? = some x → l[j]? = some y → Rows.uptoBulk x + Rows.uptoBulk y ≤ Rows.uptoBulkAll l
  | [], _, _, _, _, _, h, _ => by simp at h
  | d :: l, 0, 0, _, _, h, _, _ => by omega
  | d :: l, 0, j + 1, x, y, _, h1, h2 => by
    simp at h1 h2
    subst h1
    have := bulk_part (List.mem_of_getElem? h2)
    simp only [Rows.uptoBulkAll]
    omega
  | d :: l, i + 1, 0, _, _, h, _, _ => by omega
  | d :: l, i + 1, j + 1, x, y, h, h1, h2 => by
    simp at h1 h2
    have := bulk_two (show i < j by omega) h1 h2
    simp only [Rows.uptoBulkAll]
    omega
theorem list_seven {α : Type} {l : List α} (h : l.length = 7) : ∃ c0 c1 c2 c3 c4 c5 c6, l = [c0, c1, c2, c3, c4, c5, c6] := by
  match l, h with
  | [c0, c1, c2, c3, c4, c5, c6], _ => exact ⟨_, _, _, _, _, _, _, rfl⟩
def actF (fs : Array Field) : Bool := fs.size == 7 && (List.range 7).all fun i => match fs[i]? with | some f => f.offset == i && f.type == [3, 3, 5, 22, 3, 23, 47].getD i 0 | none => false
set_option maxRecDepth 100000 in
theorem open_acts {H : Type} {enc : TypeId × Value → H} {w : World} {base : Nat} {held : Bool} {a : Option Addr} {n c : Nat} {d : DataW H} {p : List MemPlace} {fs : Array Field} (hs : Try.prog.underlying 49 = some (.struct fs)) (hF : actF fs = true) (hC : Try.prog.cellsOf 49 = 7)
    (h : DataW.Trod enc Try.prog w base (fun _ => true) held 45 (.slice a n c) d p) : ∃ L, ActsAt w a n L ∧ sumA L + n ≤ Rows.uptoBulk d := by
  obtain ⟨fuel, hf⟩ := h
  have hT : Try.prog.underlying 45 = some (.slice 49) := Try.underlying45
  rcases Go.Deep.open_slice hT hf with ⟨hcs, hxd⟩ | ⟨x, l, c', m, k, D, Pl, hcs, _, hl, hm, hmm, hxd, hall⟩
  · simp [Value.cells] at hcs
    obtain ⟨rfl, rfl, rfl⟩ := hcs
    exact ⟨[], ⟨rfl, fun i A hA => by simp at hA⟩, by simp [sumA]⟩
  · simp [Value.cells] at hcs
    obtain ⟨rfl, rfl, rfl⟩ := hcs
    simp only [if_true] at hmm
    subst hmm
    have each : ∀ i, i < n → ∃ A, (∃ b o, some x = some (⟨b, o, none⟩ : Addr) ∧ ActAt w b (o + i * 7) A) ∧ A.bytes.length + A.keep.length + 1 ≤ Rows.uptoBulk (D i) := by
      intro i hi
      obtain ⟨cs, h1, h2⟩ := hall i (by omega)
      rw [hC] at h1
      obtain ⟨_, hlen, hcell⟩ := World.cells?_some h1
      obtain ⟨v0, v1, v2, v3, v4, v5, v6, rfl⟩ := list_seven hlen
      obtain ⟨xs, kk, _, hDi, _, hxl, hg⟩ := DataW.trod_struct hs h2
      unfold actF at hF
      rw [Bool.and_eq_true] at hF
      have h7 : fs.size = 7 := by simpa using hF.1
      have hff := List.all_eq_true.1 hF.2
      have key : ∀ (j : Nat) (v : Value) (T : TypeId), j < 7 → [v0, v1, v2, v3, v4, v5, v6][j]? = some v → [3, 3, 5, 22, 3, 23, 47].getD j 0 = T → Try.prog.cellsOf T = 1 → ∃ y, DataW.trod enc Try.prog w base (fun _ => true) held kk T [v] = some y ∧ xs[j]? = some y := by
        intro j v T hj hv hTj hT1
        have hx := hff j (by simpa using hj)
        obtain ⟨f, hfi⟩ : ∃ f, fs[j]? = some f := ⟨_, Array.getElem?_eq_getElem (by omega)⟩
        rw [hfi] at hx
        simp only [Bool.and_eq_true, beq_iff_eq] at hx
        obtain ⟨ho, ht⟩ := hx
        have h3 := hg j f hfi
        rw [ho, ht, hTj, hT1] at h3
        have hd : ([v0, v1, v2, v3, v4, v5, v6].drop j).take 1 = [v] := by
          obtain ⟨hjl, hje⟩ := List.getElem?_eq_some_iff.1 hv
          rw [List.drop_eq_getElem_cons hjl, hje]
          rfl
        rw [hd] at h3
        exact ⟨_, h3.trans (List.getElem?_eq_getElem (by omega)), List.getElem?_eq_getElem (by omega)⟩
      obtain ⟨y0, t0, s0⟩ := key 0 v0 3 (by omega) rfl rfl (by kernel_rfl)
      obtain ⟨y1, t1, s1⟩ := key 1 v1 3 (by omega) rfl rfl (by kernel_rfl)
      obtain ⟨y2, t2, s2⟩ := key 2 v2 5 (by omega) rfl rfl (by kernel_rfl)
      obtain ⟨y3, t3, s3⟩ := key 3 v3 22 (by omega) rfl rfl (by kernel_rfl)
      obtain ⟨y4, t4, s4⟩ := key 4 v4 3 (by omega) rfl rfl (by kernel_rfl)
      obtain ⟨y5, t5, s5⟩ := key 5 v5 23 (by omega) rfl rfl (by kernel_rfl)
      obtain ⟨y6, t6, s6⟩ := key 6 v6 47 (by omega) rfl rfl (by kernel_rfl)
      obtain ⟨z0, e0, _, q0⟩ := DataW.trod_int Try.underlying3 t0
      obtain ⟨z1, e1, _, q1⟩ := DataW.trod_int Try.underlying3 t1
      obtain ⟨z2, e2, _, q2⟩ := DataW.trod_int Try.underlying5 t2
      obtain ⟨z4, e4, _, q4⟩ := DataW.trod_int Try.underlying3 t4
      obtain ⟨z6, e6, _, q6⟩ := DataW.trod_int Try.underlying47 t6
      obtain ⟨ba, bn, bc, zb, rfl, hb, ub⟩ := bytes_of Try.underlying22 Try.underlying5 (by kernel_rfl) t3
      obtain ⟨ka, kn, kc, zk, rfl, hk, uk⟩ := bools_of Try.underlying23 Try.underlying4 (by kernel_rfl) t5
      simp only [List.cons.injEq, and_true] at e0 e1 e2 e4 e6
      subst e0 e1 e2 e4 e6
      have hsp : x.spot = none := by
        obtain ⟨cs0, h10, _⟩ := hall 0 (by omega)
        rw [hC] at h10
        obtain ⟨_, hlen0, hcell0⟩ := World.cells?_some h10
        have c0 := hcell0 0 (by omega)
        obtain ⟨u0, u1, u2, u3, u4, u5, u6, rfl⟩ := list_seven hlen0
        have := World.cell?_spot c0
        simpa [Addr.add] using this
      obtain ⟨b, o, sp⟩ := x
      have hsp' : sp = none := hsp
      subst hsp'
      have cc : ∀ j, j < 7 → w.cell? ⟨b, o + i * 7 + j, none⟩ = ([.int .i64 z0, .int .i64 z1, .int .u8 z2, .slice ba bn bc, .int .i64 z4, .slice ka kn kc, .int .u32 z6] : List Value)[j]? := by
        intro j hj
        have hcj := hcell j (by simpa using hj)
        rw [Go.WideShapes.add_plain, Go.WideShapes.add_plain] at hcj
        exact hcj
      have hbulk : zb.length + zk.length + 1 ≤ Rows.uptoBulk (D i) := by
        rw [Prod.mk.injEq] at hDi
        rw [hDi.1]
        have h35 := bulk_two (l := xs.map (·.1)) (i := 3) (j := 5) (x := y3.1) (y := y5.1) (by omega) (by rw [List.getElem?_map, s3]; rfl) (by rw [List.getElem?_map, s5]; rfl)
        simp only [Rows.uptoBulk]
        omega
      exact ⟨⟨z0, z1, z2, zb, z4, zk, z6⟩, ⟨b, o, rfl, ⟨ba, bn, bc, ka, kn, kc, cc 0 (by omega), cc 1 (by omega), cc 2 (by omega), cc 3 (by omega), cc 4 (by omega), cc 5 (by omega), cc 6 (by omega), hb, hk⟩, q0, q1, q2, q4, q6⟩, hbulk⟩
    obtain ⟨A, hA⟩ := Go.Deep.choose_lt each
    refine ⟨(List.range n).map A, ⟨by simp, fun i B hB => ?_⟩, ?_⟩
    rotate_left
    · have h1 := bulk_acts (List.range n) A D (fun r hr => (hA r (List.mem_range.1 hr)).2)
      rw [List.length_range] at h1
      rw [Prod.mk.injEq] at hxd
      rw [hxd.1]
      simp only [Rows.uptoBulk]
      omega
    rw [List.getElem?_map] at hB
    by_cases hi : i < n
    · rw [List.getElem?_range hi] at hB
      simp at hB
      subst hB
      exact (hA i hi).1
    · rw [List.getElem?_eq_none (by simp; omega)] at hB
      simp at hB
theorem acts_open {H : Type} {enc : TypeId × Value → H} {w : World} {base : Nat} {held : Bool} {a : Option Addr} {n c : Nat} {d : DataW H} {p : List MemPlace} (h : DataW.Trod enc Try.prog w base (fun _ => true) held 45 (.slice a n c) d p) : ∃ L, ActsAt w a n L ∧ sumA L + n ≤ Rows.uptoBulk d :=
  open_acts Try.underlying49 (by kernel_rfl) (by kernel_rfl) h
end Go.Proofs.Ytpgncmoagmkcmaa
