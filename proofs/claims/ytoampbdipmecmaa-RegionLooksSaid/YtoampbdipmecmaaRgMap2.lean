/- region: Map. -/
import Derived.Test.YtoampbdipmecmaaRgMap
namespace Go.Proofs.Ytoampbdipmecmaa
open Go.RowKit Go.Shelf Go.Proofs
attribute [local go_sem] Oper.semAt_some
theorem appS_oneIn {α : Type} {m : α → List Value} {k : Nat} {e : TypeId} {F : Fence} {nn : Nat} {P : Program} {T bytes : Nat} {z : Value} {ops : Array Oper} {rest : List Oper} {o : Oper} {a : Act} {Q : Exit → Act → World → Prop} (C : Cellular m k) (hT : P.underlying T = some (.slice e)) (hI : (P.info? e).map (fun i => (i.zero, i.size, i.bytes)) = some (some z, k, bytes)) (hzc : z.cells.size = k) (hby : bytes ≤ 128) (hg : o.guard = none) (s x : Operand)
    (ho : o.op = .call { callee := .builtin .append, args := #[s, x], argTypes := #[T, T] }) (w : World) (base : Nat) (v : Value) (L : List α) (hs : a.eval s = v) (hown : OwnsS m k e w base v L)
    (g c : Nat) (q : α) (hx : a.eval x = .slice (some ⟨g, 0, none⟩) 1 c) (hrow : w.heap[g]? = some (.cells (m q).toArray e (0, 0))) (hlen : L.length < 1000000000000) (hbase : base ≤ w.heap.size)
    (h : ∀ v' w', OwnsS m k e w' base v' (L ++ [q]) → Grows w v w' v' → wpListIn F nn P ops Q rest (a.put o.dst v') w') :
    wpListIn F nn P ops Q (o :: rest) a w := by
  refine wpListIn_plain hg fun K hK => ?_
  obtain ⟨v', w', hr, h1, h2⟩ := run_appS_one (P := P) C hT hI hzc hby o.type w base v L hown g c q hrow hlen hbase
  unfold Oper.wpIn
  refine ⟨?_, ?_⟩
  · simp [Oper.about, ho, resolve, Target.leads, Sem.run_pure]
  · rw [Oper.semAt_plain F _ _ (by rw [ho]; intro c hc'; cases hc')]
    simp [execOp, ho, resolve, invoke, builtin, hs, hx, hr, Result.andThen]
    exact hK _ _ (h v' w' h1 h2)
theorem map_size {w w2 w3 : World} {v2 v3 : Value} {o : Obj} (hb2 : Below w.heap.size w w2) (hg3 : Grows (w2.alloc o) v2 w3 v3) : w.heap.size ≤ w3.heap.size := by
  have := hb2.size
  have := hg3.1.size
  simp at this
  omega
theorem map_below {w w2 w3 w4 : World} {L M : List Rg} {v2 v3 : Value} {o : Obj} (hb2 : Below w.heap.size w w2) (ho2 : OwnsS Rg.cells 3 29 w2 w.heap.size v2 L) (hg3 : Grows (w2.alloc o) v2 w3 v3) (ho3 : OwnsS Rg.cells 3 29 w3 w.heap.size v3 M) (hg4 : w3.grownBy w4 (room v3)) : Below w.heap.size w w4 := by
  have h3 : Below w.heap.size w w3 := own_step hb2 ho2 (below_a _ _) hg3
  exact Below.grown h3 hg4 h3.size (fun k e => (ho3.at_base k e).1)
set_option maxRecDepth 100000 in
theorem map_arg (a : Option Addr) (n c : Nat) (lo hi p : Int) (w : World) (h : rightB lo hi p = false) :
    Calls Try.prog 10 #[.slice a n c, .int .i64 lo, .int .i64 hi, .int .i64 p] w (GivesRE [] 1 w) := by
  have HR := Lib.hid (right_any lo hi p)
  rw [h] at HR
  clear h
  go_enter Try.func10, Try.ntmps10
  go_wp2_with (go_at_call 28; refine (HR.out _).mono ?_; rintro e w' ⟨rfl, rfl⟩)
  have hw := (Boxed.new w 22 (.slice none 0 0)).alloc (.cells #[.int .i64 1] 25)
  have hv := Boxed.new (w.alloc (.cells #[.slice none 0 0] 22)) 25 (.int .i64 1)
  rw [World.size_alloc] at hv
  refine bodyPost_ret (v := .tuple #[.slice none 0 0, .int .i64 1]) (by simp [results, Try.results10, go_sem, hw.cell, hv.cell]) rfl ?_
  exact ⟨_, rfl, OwnsS.nil _ _ _ _ _, below_a2 w _ _⟩
/-- How Map ends, of a stretch that may be. -/
def GivesMap (L : List Rg) (lo hi p : Int) (w : World) : Ending → World → Prop := if piecesL L lo hi = [] then GivesRE (joinedL (L ++ [⟨lo, hi, p⟩])) 0 w else GivesRE [] 3 w
theorem gives_used {L : List Rg} {lo hi p : Int} {w : World} {e : Ending} {w' : World} (h : piecesL L lo hi ≠ []) (k : GivesRE [] 3 w e w') : GivesMap L lo hi p w e w' := by
  unfold GivesMap; rw [if_neg h]; exact k
theorem gives_mapped {L : List Rg} {lo hi p : Int} {w : World} {e : Ending} {w' : World} (h : piecesL L lo hi = []) (k : GivesRE (joinedL (L ++ [⟨lo, hi, p⟩])) 0 w e w') : GivesMap L lo hi p w e w' := by
  unfold GivesMap; rw [if_pos h]; exact k
/-- What Map's own cells hold between two rounds: there is none. -/
structure MapI (w W0 : World) (pre : List Rg) (W : World) : Prop where
  nil : pre = []
  res : Boxed W w.heap.size 22 (.slice none 0 0)
  err : Boxed W (w.heap.size + 1) 25 (.int .i64 0)
  size : W0.heap.size ≤ W.heap.size
structure MapX (w : World) (c : Code) (pre : List Rg) (W : World) : Prop where
  ret : c = .ret
  some : pre ≠ []
  res : Boxed W w.heap.size 22 (.slice none 0 0)
  err : Boxed W (w.heap.size + 1) 25 (.int .i64 3)
theorem mapI_own (w W0 : World) : Own (fun pre W => MapI w W0 pre W) := fun _ _ _ _ hs hg hr => ⟨hs.nil, row_own hs.res hg hr, row_own hs.err hg hr, Nat.le_trans hs.size hg.size⟩
theorem mapX_own (w : World) (c : Code) : Own (fun pre W => MapX w c pre W) := fun _ _ _ _ hs hg hr => ⟨hs.ret, hs.some, row_own hs.res hg hr, row_own hs.err hg hr⟩
set_option maxRecDepth 100000 in
set_option linter.unusedSimpArgs false in
set_option linter.unusedVariables false in
set_option maxHeartbeats 2000000 in
theorem map_in (a : Option Addr) (n c : Nat) (L : List Rg) (lo hi p : Int) (w : World) (h : RdS Rg.cells 3 w a n c L) (hn : n ≤ 1000) (hnice : NiceL L) (hp : Parted L) (hlo : ∀ r ∈ L, 0 ≤ r.lo ∧ r.hi ≤ 1099511627776) (hhi : hi ≤ 1099511627776) (hr : rightB lo hi p = true) :
    Calls Try.prog 10 #[.slice a n c, .int .i64 lo, .int .i64 hi, .int .i64 p] w (GivesMap L lo hi p w) := by
  have H := Lib.hid h
  have hl := h.len
  have HR := Lib.hid (right_any lo hi p)
  rw [hr] at HR
  clear h
  refine (callsIn_wide (n := 6)).1 ?_
  refine callsIn_of_wp_marks Try.func10 rfl trivial ?_ rfl
  simp only [Try.ntmps10, List.size_toArray, List.length_cons, List.length_nil, Nat.reduceAdd, Nat.reduceSub, Array.replicate_succ, Array.replicate_zero, List.push_toArray, List.append_toArray, List.nil_append, List.cons_append]
  have hba := below_a2 w (.cells #[.slice none 0 0] 22) (.cells #[.int .i64 0] 25)
  have b0 := (Boxed.new w 22 (.slice none 0 0)).alloc (.cells #[.int .i64 0] 25)
  have b1 := Boxed.new (w.alloc (.cells #[.slice none 0 0] 22)) 25 (.int .i64 0)
  simp only [World.size_alloc] at b1
  have hfn : Fence.wide.fn 16 := trivial
  have hfn2 : Fence.wide.fn 28 := trivial
  gi_wp2_with (first | (gi_at_call 28; refine (callsIn_wide.2 (HR.out _)).mono ?_; rintro e w' ⟨rfl, rfl⟩) | (gi_at_call 16; refine (callsIn_wide.2 (pieces_any a n c L lo hi _ (H.out.below hba) (by omega))).mono ?_; rintro e W0 ⟨v, rfl, hP, hO, hb0⟩))
  have hbW := Below.call hba hb0
  have hsz0 : w.heap.size + 1 + 1 ≤ W0.heap.size := by have := hb0.size; simp at this; omega
  have p0 := boxed_below b0 hb0 (by simp; omega)
  have p1 := boxed_below b1 hb0 (by simp)
  have hlt := hP.hi.lt
  simp only [World.size_alloc] at hP hO hlt ⊢
  clear b0 b1 hb0 hba
  refine wpIn_rangeFunc_ownG rfl (by decide) (gf := 32) (lb := #[.pointer (some ⟨w.heap.size + 1 + 1, 0, none⟩), .pointer (some ⟨w.heap.size + 1 + 1 + 1, 0, none⟩), .pointer (some ⟨w.heap.size + 1 + 1 + 2, 0, none⟩)]) rfl trivial (enters_of Try.func32 (by kernel_rfl) rfl)
    (pieces_stops Fence.wide (6 - 1) trivial rfl (by decide) (w.heap.size + 1 + 1) W0.heap.size v L lo hi W0 (by omega) hP hO hlt (Nat.le_refl _) (fun g hg => (hO.at_base g hg).2)) Amid.trans (amid_b (Nat.le_refl _)) (Below.refl _ _) (fun _ => rfl)
    (fun pre W => MapI w W0 pre W ∧ Below w.heap.size w W)
    (fun c pre W => MapX w c pre W ∧ Below w.heap.size w W)
    (OwnFrom.and (Own.from (mapI_own w W0) _) (ownFrom_below (Nat.le_refl _) (by omega)))
    (fun c => OwnFrom.and (Own.from (mapX_own w c) _) (ownFrom_below (Nat.le_refl _) (by omega)))
    ⟨⟨rfl, p0, p1, Nat.le_refl _⟩, hbW⟩
    (fun x => { tmps := #[.slice a n c, .int .i64 lo, .int .i64 hi, .int .i64 p, undef, undef, undef, undef, .pointer (some ⟨w.heap.size, 0, none⟩), .pointer (some ⟨w.heap.size + 1, 0, none⟩), .int .i64 lo, .int .i64 hi, .int .i64 p, .bool true, .bool false, .slice a n c, .int .i64 lo, .int .i64 hi, .func (.func 32) #[] #[.pointer (some ⟨w.heap.size + 1 + 1, 0, none⟩), .pointer (some ⟨w.heap.size + 1 + 1 + 1, 0, none⟩), .pointer (some ⟨w.heap.size + 1 + 1 + 2, 0, none⟩)], x.val, undef, undef, undef, undef, undef, undef, undef, undef, undef], defers := [] })
    ?assign ?body ?done ?stop
  case assign =>
    intro l x W K hK
    gi_wp2
    simpa using hK
  case body =>
    rintro l pre x W ⟨⟨rfl, q0, q1, hsz⟩, hB⟩ hlt2
    have c0 := q0.cell
    have c1 := q1.cell
    have f0 := q0.frozen
    have f1 := q1.frozen
    gi_wp2
    exact ⟨((KeepsOthers.setCell _ _ _).trans (KeepsOthers.setCell _ _ _)).from _, ⟨rfl, by simp, (q0.set _).other (by omega) _, (q1.other (by omega) _).set _⟩, (hB.setCell (p := ⟨w.heap.size, 0, none⟩) (by simp) _).setCell (p := ⟨w.heap.size + 1, 0, none⟩) (by simp) _⟩
  case stop =>
    rintro D cc pre W hD ⟨rest, hrest⟩ ⟨⟨rfl, hno, q0, q1⟩, hB⟩ hK
    have hne : piecesL L lo hi ≠ [] := fun e => hno (by rw [e] at hrest; simp at hrest; exact hrest.1)
    clear hno hrest
    gi_wp2
    refine ⟨by simp, .inl ⟨_, _, rfl, run_takeDeferred hK, ?_⟩⟩
    have hc0 := cell_kept q0.cell (grownBy_putObj' _ D (.deferred none)) (fun r e => by cases e; exact ⟨_, hK, rfl⟩)
    have hc1 := cell_kept q1.cell (grownBy_putObj' _ D (.deferred none)) (fun r e => by cases e; exact ⟨_, hK, rfl⟩)
    refine ⟨.tuple #[.slice none 0 0, .int .i64 3], ?_, gives_used hne ⟨_, rfl, OwnsS.nil _ _ _ _ _, hB.trans (belowK_b (w := w) (Nat.le_refl _) W D _ _ (by omega) hK rfl rfl)⟩⟩
    simp [results, Try.f10, go_sem, hc0, hc1]
  case done =>
    rintro D ys W hD rfl ⟨⟨hnil, q0, q1, hsz⟩, hB⟩ hK
    unfold rightB protB at hr
    simp only [Bool.and_eq_true, decide_eq_true_eq] at hr
    obtain ⟨r1, r2, r3, r4⟩ := hr
    have hno := (pieces_none hnice r2).1 hnil
    have HJ : Hid (∀ base v w1, OwnsS Rg.cells 3 29 w1 base v (L ++ [⟨lo, hi, p⟩]) → Calls Try.prog 30 #[v] w1 (GivesJoined (L ++ [⟨lo, hi, p⟩]) v w1)) := fun base v w1 ho => by
      refine joined_all base v _ w1 ho (fun r hr => ?_) (by simp; omega) (hp.snoc (r := ⟨lo, hi, p⟩) (fun s hs => ?_)) (hnice.snoc ⟨r2, r3⟩)
      · rcases List.mem_append.1 hr with hr | hr
        · have := hlo r hr
          have := hnice r hr
          omega
        · obtain rfl := List.mem_singleton.1 hr
          exact ⟨r1, by show lo ≤ _; omega⟩
      · have := hno s hs
        unfold Apart
        show s.hi ≤ lo ∨ hi ≤ s.lo
        omega
    have HNIL := Lib.hid hnil
    have BD := Lib.hid hB
    have Q0 := Lib.hid q0
    have Q1 := Lib.hid q1
    have HKD := Lib.hid hK
    have HD := Lib.hid hD
    have HC := Lib.hid (cloneR_any a n c L W (RdS.below H.out hB) (by omega))
    have HL := Lib.hid hl
    clear hnil hB q0 q1 hK hno hp hnice hlo r1 r2 r3 r4 hl hD hP hO hbW hsz0
    have hf1 : Fence.wide.fn 31 := trivial
    have hf2 : Fence.wide.fn 30 := trivial
    gi_wp2_with (first | (gi_at_call 31; refine (callsIn_wide.2 HC.out).mono ?_; rintro e w2 ⟨v2, rfl, ho2, hb2⟩) | (gi_at_builtin; refine appS_oneIn rgC Try.underlying22 rgI rfl (by decide) rfl (.tmp 21) (.tmp 26) rfl _ W.heap.size _ _ rfl (ho2.alloc _) _ 1 ⟨lo, hi, p⟩ rfl (heap_alloc_new _ _) (by have := HL.out; omega) (by have := hb2.size; simp; omega) ?_; intro v3 w3 ho3 hg3) | (gi_at_call 30; refine (callsIn_wide.2 (HJ.out W.heap.size v3 w3 ho3)).mono ?_; rintro e w4 ⟨v4, rfl, ho4, hg4⟩; obtain ⟨m4, hm4⟩ : ∃ m4, (joinedL (L ++ [⟨lo, hi, p⟩])).length = m4 := ⟨_, rfl⟩; obtain ⟨a4, c4, rfl⟩ := ho4.shapeN m4 hm4; have hB4 := map_below hb2 ho2 hg3 ho3 hg4; have c0 := (boxed_below Q0.out hB4 (by omega)).cell; have f0 := (boxed_below Q0.out hB4 (by omega)).frozen; have c1 := (boxed_below Q1.out hB4 (by omega)).cell; have f1 := (boxed_below Q1.out hB4 (by omega)).frozen; clear hm4))
    have z0 := boxed_below Q0.out hB4 (by omega)
    have z1 := boxed_below Q1.out hB4 (by omega)
    have hK4 : w4.heap[D]? = some (.deferred (some [])) := (hB4.block D (Array.getElem?_eq_some_iff.1 HKD.out).1).trans HKD.out
    have hD := HD.out
    have hK5 := (KeepsOthers.setCell w4 ⟨w.heap.size, 0, none⟩ (.slice a4 m4 c4)).same D _ hK4 rfl
    have hK6 := (KeepsOthers.setCell (w4.setCell ⟨w.heap.size, 0, none⟩ (.slice a4 m4 c4)) ⟨w.heap.size + 1, 0, none⟩ (.int .i64 0)).same D _ hK5 rfl
    have y0 := (z0.set (.slice a4 m4 c4)).other (B' := w.heap.size + 1) (by omega) (.int .i64 0)
    have y1 := (z1.other (B' := w.heap.size) (by omega) (.slice a4 m4 c4)).set (.int .i64 0)
    refine ⟨by simp, .inl ⟨_, _, rfl, run_takeDeferred hK6, ?_⟩⟩
    have hc0 := cell_kept y0.cell (grownBy_putObj' _ D (.deferred none)) (fun r e => by cases e; exact ⟨_, hK6, rfl⟩)
    have hc1 := cell_kept y1.cell (grownBy_putObj' _ D (.deferred none)) (fun r e => by cases e; exact ⟨_, hK6, rfl⟩)
    have hfin : Below w.heap.size w ((w4.setCell ⟨w.heap.size, 0, none⟩ (.slice a4 m4 c4)).setCell ⟨w.heap.size + 1, 0, none⟩ (.int .i64 0)) := ((Below.call BD.out hB4).setCell (p := ⟨w.heap.size, 0, none⟩) (by simp) _).setCell (p := ⟨w.heap.size + 1, 0, none⟩) (by simp) _
    refine ⟨.tuple #[.slice a4 m4 c4, .int .i64 0], ?_, gives_mapped HNIL.out ⟨_, rfl, ?_, hfin.trans (belowK_b (w := w) (Nat.le_refl _) _ D _ _ (by omega) hK6 rfl rfl)⟩⟩
    · simp [results, Try.f10, go_sem, hc0, hc1]
    · refine OwnsS.grown (row := some D) ?_ (grownBy_putObj' _ D (.deferred none)) (fun g hg e => ?_)
      · refine OwnsS.grown (OwnsS.grown (ho4.mono ?_) (cell_grown1 _ _ _ _) (fun g hg e => ?_)) (cell_grown1 _ _ _ _) (fun g hg e => ?_)
        · exact Nat.le_trans BD.out.size (map_size hb2 hg3)
        · injection e with e
          have := (ho4.at_base g hg).1
          have := map_size hb2 hg3
          omega
        · injection e with e
          have := (ho4.at_base g hg).1
          have := map_size hb2 hg3
          omega
      · injection e with e
        have := (ho4.at_base g hg).1
        have h3 := map_size hb2 hg3
        have h4 := (Array.getElem?_eq_some_iff.1 HKD.out).1
        omega
set_option maxRecDepth 100000 in
/-- Map, of a stretch that may be. -/
theorem map_yes (a : Option Addr) (n c : Nat) (L : List Rg) (lo hi p : Int) (w : World) (h : RdS Rg.cells 3 w a n c L) (hn : n ≤ 1000) (hnice : NiceL L) (hp : Parted L) (hlo : ∀ r ∈ L, 0 ≤ r.lo ∧ r.hi ≤ 1099511627776) (hhi : hi ≤ 1099511627776) (hr : rightB lo hi p = true) :
    Calls Try.prog 10 #[.slice a n c, .int .i64 lo, .int .i64 hi, .int .i64 p] w (GivesMap L lo hi p w) := map_in a n c L lo hi p w h hn hnice hp hlo hhi hr
end Go.Proofs.Ytoampbdipmecmaa
