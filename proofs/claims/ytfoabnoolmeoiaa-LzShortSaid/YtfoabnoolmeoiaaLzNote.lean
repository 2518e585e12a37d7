/- lz: the contract of greedy's note. -/
import Derived.Test.YtfoabnoolmeoiaaLzSeen
import Derived.Test.YtfoabnoolmeoiaaLzIter
import Derived.Test.YtfoabnoolmeoiaaKill
namespace Go.Proofs.Ytfoabnoolmeoiaa
open Go.RowKit
/-- From w to w' whatever lies below the rows' base, but the map's block, and whatever is shunned, is as it was. -/
structure Sp (base mb : Nat) (No : Nat → Prop) (w w' : World) : Prop where
  os : w'.os = w.os
  tape : w'.tape = w.tape
  output : w'.output = w.output
  size : w.heap.size ≤ w'.heap.size
  block : ∀ j, j < w.heap.size → (j < base ∨ No j) → j ≠ mb → w'.heap[j]? = w.heap[j]?
section
variable {base mb : Nat} {No : Nat → Prop} {w w' w'' : World}
theorem Sp.refl (w : World) : Sp base mb No w w := ⟨rfl, rfl, rfl, Nat.le_refl _, fun _ _ _ _ => rfl⟩
theorem Sp.trans (h : Sp base mb No w w') (k : Sp base mb No w' w'') : Sp base mb No w w'' :=
  ⟨k.os.trans h.os, k.tape.trans h.tape, k.output.trans h.output, Nat.le_trans h.size k.size, fun j a b c => (k.block j (Nat.lt_of_lt_of_le a h.size) b c).trans (h.block j a b c)⟩
theorem Sp.of_below (b : Below w.heap.size w w') : Sp base mb No w w' := ⟨b.os, b.tape, b.output, b.size, fun j a _ _ => b.block j a⟩
theorem Sp.of_map (g : w.grownBy w' (some mb)) : Sp base mb No w w' := ⟨g.os, g.tape, g.output, g.size, fun j a _ c => g.block j a (fun e => c (by injection e))⟩
theorem Sp.cell (h : Sp base mb No w w') {p : Nat} (a : p < w.heap.size) (b : p < base ∨ No p) (c : p ≠ mb) (o : Nat) : w'.cell? ⟨p, o, none⟩ = w.cell? ⟨p, o, none⟩ := cell_at (h.block p a b c) o
theorem Sp.rd (h : Sp base mb No w w') {kd : IntKind} {a : Option Addr} {n c : Nat} {l : List Int} (r : RdAt kd w a n c l) (hz : ∀ x, a = some x → 0 < n → (x.block < base ∨ No x.block) ∧ x.block ≠ mb) : RdAt kd w' a n c l :=
  ⟨r.len, r.cap, r.max, fun i hi => by
    obtain ⟨b, o, e, hc⟩ := r.cell i hi
    obtain ⟨h1, h2⟩ := hz _ e (by omega)
    exact ⟨b, o, e, by rw [h.cell (block_lt_of_cell hc) h1 h2]; exact hc⟩, r.wf, r.void⟩
end
/-- at is noted at its key. -/
def noteQ (q : Int) (i : Nat) (S : Int → List Int) : Int → List Int := fun j => if j = q then S j ++ [(i : Int)] else S j
/-- What the look-up gave, and the way back. -/
structure LookAt (base mb cnt : Nat) (No : Nat → Prop) (S : Int → List Int) (q : Int) (v : Value) (w : World) : Prop where
  own : w.ownsInts base 3 .i64 v (S q)
  len : (S q).length ≤ cnt
  sh : ∀ g, v.ownBlock = some g → ¬ No g
  back : ∀ (w1 : World) (v' : Value) (x : Int), w.grownBy w1 v.ownBlock → w1.ownsInts base 3 .i64 v' (S q ++ [x]) → (v'.ownBlock = v.ownBlock ∨ ∃ g, v'.ownBlock = some g ∧ w.heap.size ≤ g) →
        ∃ w2, (Instr.mapUpdate 46 (.map (some mb)) (.int .u32 q) v').run Try.prog w1 = .ok () w2 ∧ Gr w2 base mb (cnt + 1) No (fun j => if j = q then S j ++ [x] else S j) ∧ w1.grownBy w2 (some mb)
theorem grown_refl (w : World) : w.grownBy w none := ⟨rfl, rfl, rfl, Nat.le_refl _, fun _ _ _ => rfl⟩
theorem grown_of_kept {w w' : World} (b : Kept w w') (row : Option Nat) : w.grownBy w' row := ⟨b.os, b.tape, b.output, b.size, fun j hj _ => b.block j hj⟩
theorem grown_trans {w w' w'' : World} {row : Option Nat} (h : w.grownBy w' row) (k : w'.grownBy w'' row) : w.grownBy w'' row :=
  ⟨k.os.trans h.os, k.tape.trans h.tape, k.output.trans h.output, Nat.le_trans h.size k.size, fun j a b => (k.block j (Nat.lt_of_lt_of_le a h.size) b).trans (h.block j a b)⟩
theorem grown_any {w w' : World} (h : w.grownBy w' none) (row : Option Nat) : w.grownBy w' row := ⟨h.os, h.tape, h.output, h.size, fun j a _ => h.block j a (fun e => by cases e)⟩
theorem ownsRow_shape {w : World} {base : Nat} {e : TypeId} {v : Value} {n : Nat} {xs : List Value} (h : w.ownsRow base e 1 v n xs) : ∃ a c, v = .slice a n c := by
  rcases h.2 with ⟨hv, hn⟩ | ⟨g, cap, cur, hv, _⟩
  · exact ⟨none, 0, by rw [hv, hn]⟩
  · exact ⟨_, _, hv⟩
section
variable {base mb cnt : Nat} {No : Nat → Prop} {S S' : Int → List Int} {q : Int} {v v' : Value} {w w' : World}
theorem LookAt.kept (h : LookAt base mb cnt No S q v w) (b : Kept w w') : LookAt base mb cnt No S q v w' :=
  ⟨h.own.kept (grown_of_kept b none) (by cases v.ownBlock <;> simp), h.len, h.sh, fun w1 v' x g o l => h.back w1 v' x (grown_trans (grown_of_kept b _) g) o (l.imp id (fun ⟨g, a, c⟩ => ⟨g, a, Nat.le_trans b.size c⟩))⟩
theorem LookAt.shape (h : LookAt base mb cnt No S q v w) : ∃ a c, v = .slice a (S q).length c := ownsRow_shape h.own.1
/-- The slice that is to be laid. -/
structure AppAt (base mb cnt : Nat) (No : Nat → Prop) (S' : Int → List Int) (q : Int) (v : Value) (w : World) : Prop where
  run : ∀ w1, w.grownBy w1 none → ∃ w2, (Instr.mapUpdate 46 (.map (some mb)) (.int .u32 q) v).run Try.prog w1 = .ok () w2 ∧ Gr w2 base mb (cnt + 1) No S' ∧ w1.grownBy w2 (some mb)
theorem AppAt.kept (h : AppAt base mb cnt No S' q v w) (b : Kept w w') : AppAt base mb cnt No S' q v w' := ⟨fun w1 g => h.run w1 (grown_trans (grown_of_kept b none) g)⟩
theorem LookAt.app {i : Nat} (h : LookAt base mb cnt No S q v w) (ho : w'.ownsInts base 3 .i64 v' (S q ++ [(i : Int)])) (g : w.grownBy w' v.ownBlock) (l : v'.ownBlock = v.ownBlock ∨ v'.ownBlock = some w.heap.size) : AppAt base mb cnt No (noteQ q i S) q v' w' :=
  ⟨fun w1 g1 => h.back w1 v' i (grown_trans g (grown_any g1 _)) (ho.kept g1 (by cases v'.ownBlock <;> simp)) (l.imp id (fun e => ⟨_, e, Nat.le_refl _⟩))⟩
theorem LookAt.sp (h : LookAt base mb cnt No S q v w) (g : w.grownBy w' v.ownBlock) (_ : v'.ownBlock = v.ownBlock ∨ v'.ownBlock = some w.heap.size) : Sp base mb No w w' :=
  ⟨g.os, g.tape, g.output, g.size, fun j a b _ => g.block j a (fun e => by
    rcases b with b | b
    · have := (h.own.1.lt j e.symm).1; omega
    · exact h.sh j e.symm b)⟩
end
theorem Gr.more {w : World} {base b n : Nat} {No : Nat → Prop} {S : Int → List Int} (h : Gr w base b n No S) : Gr w base b (n + 1) No S := by
  obtain ⟨D, ⟨es, clock, hb, F, hs, rfl, hbb, hlen, hap⟩, hm, hS⟩ := h.own
  exact ⟨⟨_, ⟨es, clock, hb, F, Nat.le_succ_of_le hs, rfl, hbb, fun x hx zs hz => Nat.le_succ_of_le (hlen x hx zs hz), hap⟩, hm, hS⟩, h.shuns⟩
section
variable {P : Program} {K : Act → World → Prop} {Q : Exit → Act → World → Prop} {o : Oper} {t : Array Value} {ds : List Deferred} {T : TypeId}
theorem wp_append (d : Tmp) (hd : o.dst = some d) (s x : Operand) (ho : o.op = .call { callee := .builtin .append, args := #[s, x], argTypes := #[T, T] }) (w : World) (v vx : Value) {v' : Value} {w' : World} (hs : (Act.mk t ds).eval s = v) (hx : (Act.mk t ds).eval x = vx)
    (hr : (Builtin.append_ #[T, T] o.type #[v, vx]).run P w = .ok v' w') (h : K ⟨t.setIfInBounds d v', ds⟩ w') : Oper.wp P o ⟨t, ds⟩ w K Q := by
  refine wp_of_run d hd (v := v') (w' := w') ?_ h
  unfold execOp
  simp only [ho, resolve, invoke, builtin, Sem.run_bind, Sem.run_pure, Result.andThen_ok, List.map_toArray, List.map_cons, List.map_nil, hs, hx, hr]
end
set_option maxRecDepth 100000 in
theorem intInfo : (Try.prog.info? 3).map (fun i => (i.zero, i.size, i.bytes)) = some (some (.int .i64 0), 1, 8) := by kernel_rfl
theorem one_rd (w : World) (x : Int) (e : TypeId) (hx : (Lit.int .i64 x).wf = true) : RdAt .i64 (w.alloc (.cells #[.int .i64 x] e)) (some ⟨w.heap.size, 0, none⟩) 1 1 [x] :=
  Owns.rd (e := e) (base := w.heap.size) ⟨by simpa using hx, .inr ⟨rfl, .inr ⟨w.heap.size, 1, _, rfl, Nat.le_refl _, heap_alloc_new _ _, Nat.le_refl _, by unfold maxLen; omega, rfl, rfl⟩⟩⟩
theorem one_cell {w : World} {g : Nat} {x : Int} (h : RdAt .i64 w (some ⟨g, 0, none⟩) 1 1 [x]) : ∀ j u, [Value.int .i64 x][j]? = some u → w.cell? ((⟨g, 0, none⟩ : Addr).add j) = some u := by
  intro j u hu
  cases j with
  | zero =>
    simp at hu
    subst hu
    obtain ⟨b, o, e, hc⟩ := h.cell 0 (by omega)
    injection e with e
    injection e with e1 e2
    subst e1 e2
    rw [Addr.add_lit]
    exact hc
  | succ j => simp at hu
set_option linter.unusedSimpArgs false in
set_option linter.unusedVariables false in
set_option maxRecDepth 100000 in
set_option maxHeartbeats 1000000 in
theorem note_any (p1 p4 : Nat) (a : Option Addr) (n c : Nat) (b : List Int) (base mb cnt : Nat) (No : Nat → Prop) (S : Int → List Int) (i : Nat) (w : World) (h1 : w.cell? ⟨p1, 0, none⟩ = some (.slice a n c)) (h4 : w.cell? ⟨p4, 0, none⟩ = some (.map (some mb))) (hr : RdAt .u8 w a n c b)
    (hG : Gr w base mb cnt No S) (hNo : ∀ g, No g → g < w.heap.size) (hcnt : cnt < 1000000) (hn : n ≤ 100000) (hi : i ≤ n) (hp4 : p4 < base ∨ No p4) (hp4m : p4 ≠ mb) (hbase : base ≤ w.heap.size) :
    Calls Try.prog 20 #[.int .i64 i, .pointer (some ⟨p1, 0, none⟩), .pointer (some ⟨p4, 0, none⟩)] w fun e w' => (∃ v, e = .returned v) ∧ Gr w' base mb (cnt + 1) No (noteS b i S) ∧ Sp base mb No w w' := by
  have hl := hr.len
  by_cases hp : i + 4 ≤ n
  · have d1 : decide ((i : Int) + 4 ≤ (n : Int)) = true := decide_eq_true (by omega)
    have HN : Hid (noteS b i S = noteQ (keyL b i) i S) := by show _ = _; unfold noteS noteQ; rw [if_pos (by omega)]
    have hkb := keyL_bd b i (fun x hx => wf_u8_bd (hr.wf x hx))
    have HC := Lib.hid (key_any a n c b i w hr hp hn)
    obtain ⟨q, hqq⟩ : ∃ q, keyL b i = q := ⟨_, rfl⟩
    rw [hqq] at hkb HN HC
    have hq : (Lit.int .u32 q).wf = true := WalkArith.wf_u32 (by omega)
    have hiw : (Lit.int .i64 (i : Int)).wf = true := WalkArith.wf_i64 (by omega)
    obtain ⟨w0, hw0⟩ : ∃ w0 : World, w0 = w := ⟨_, rfl⟩
    rw [← hw0] at hNo
    have hG' := Lib.hid hG
    have h4' := Lib.hid h4
    have hp4l : p4 < w.heap.size := block_lt_of_cell h4
    clear hqq hr
    go_enter Try.func20, Try.ntmps20
    go_wp2_with (go_at_call 21; refine HC.out.mono ?_; rintro e w' ⟨rfl, rfl⟩)
    have hsz1 : w0.heap.size ≤ w.drew.heap.size := by rw [hw0]; exact Nat.le_refl _
    have hB0 : Sp base mb No w0 w.drew := by rw [hw0]; exact ⟨rfl, rfl, rfl, Nat.le_refl _, fun _ _ _ _ => rfl⟩
    have hG1 : Gr w.drew base mb cnt No S := hG'.out.below ⟨rfl, rfl, rfl, Nat.le_refl _, fun _ _ => rfl⟩
    have hcell1 : w.drew.cell? ⟨p4, 0, none⟩ = some (.map (some mb)) ∧ p4 < w.drew.heap.size := ⟨h4'.out, hp4l⟩
    clear h1 h4 hG
    refine' reg_kill [(7, 4), (7, 6), (8, 4), (8, 6), (8, 7)] [eqV _, eqV _, eqV _, eqV _, (fun v w => LookAt base mb cnt No S q v w), eqV _, (fun v w => ∃ g, v = .slice (some ⟨g, 0, none⟩) 1 1 ∧ RdAt .i64 w (some ⟨g, 0, none⟩) 1 1 [(i : Int)]), (fun v w => AppAt base mb cnt No (noteQ q i S) q v w), (fun _ w => Gr w base mb (cnt + 1) No (noteQ q i S))] [(7, fun w w' => Sp base mb No w w'), (8, fun w w' => Sp base mb No w w')] [(0, fun w => w.cell? ⟨p4, 0, none⟩ = some (.map (some mb)) ∧ p4 < w.heap.size), (2, fun w => w.cell? ⟨p4, 0, none⟩ = some (.map (some mb)) ∧ p4 < w.heap.size), (4, fun w => Gr w base mb cnt No S ∧ w0.heap.size ≤ w.heap.size), (7, fun w => base ≤ w.heap.size), (9, fun w => Sp base mb No w0 w)] [13, 14, 15, 16, 17, 18, 19, 20, 29] [[], [], [], [], [2, 3], [], [5], [4, 6], [0, 1, 7]] [0, 1, 2, 3, 4, 5, 6, 7, 8] 9 (by kernel_rfl) (by kernel_rfl) ⟨eqV_stays _, eqV_stays _, eqV_stays _, eqV_stays _, fun _ _ _ p b => p.kept b, eqV_stays _, fun _ _ _ p b => (by obtain ⟨g, e, r⟩ := p; exact ⟨g, e, r.below b⟩), fun _ _ _ p b => p.kept b, fun _ _ _ p b => p.below b, trivial⟩ ⟨⟨.inl (eqV_stays _), .inl (eqV_stays _), .inl (eqV_stays _), .inl (eqV_stays _), .inr (.inr (.inr (by kernel_rfl))), .inl (eqV_stays _), .inr (.inr (.inr (by kernel_rfl))), .inr (.inr (.inl rfl)), .inr (.inl (by kernel_rfl)), trivial⟩, ⟨.inl (eqV_stays _), .inl (eqV_stays _), .inl (eqV_stays _), .inl (eqV_stays _), .inr (.inr (.inr (by kernel_rfl))), .inl (eqV_stays _), .inr (.inr (.inr (by kernel_rfl))), .inr (.inr (.inr (by kernel_rfl))), .inr (.inr (.inl rfl)), trivial⟩, trivial⟩ ⟨fun _ _ p b => ⟨by rw [cell_at (b.block p4 p.2)]; exact p.1, Nat.lt_of_lt_of_le p.2 b.size⟩, fun _ _ p b => ⟨by rw [cell_at (b.block p4 p.2)]; exact p.1, Nat.lt_of_lt_of_le p.2 b.size⟩, fun _ _ p b => ⟨p.1.below b, Nat.le_trans p.2 b.size⟩, fun _ _ p b => Nat.le_trans p b.size, fun _ _ p b => p.trans (Sp.of_below b), trivial⟩ ⟨⟨.inl (fun _ _ p g => ⟨by rw [cell_at (g.block p4 p.2 hp4 hp4m)]; exact p.1, Nat.lt_of_lt_of_le p.2 g.size⟩), .inr (.inl (by kernel_rfl)), .inr (.inl (by kernel_rfl)), .inr (.inr rfl), .inl (fun _ _ p g => p.trans g), trivial⟩, ⟨.inr (.inl (by kernel_rfl)), .inr (.inl (by kernel_rfl)), .inr (.inl (by kernel_rfl)), .inr (.inl (by kernel_rfl)), .inl (fun _ _ p g => p.trans g), trivial⟩, trivial⟩ ⟨hcell1, hcell1, ⟨hG1, hsz1⟩, hbase, hB0, trivial⟩ 21 rfl (by kernel_rfl) (by kernel_rfl) rfl rfl 9 rfl ?q1obl ?q1fin
    case q1obl =>
      refine And.intro ?q1o0 (And.intro ?q1o1 (And.intro ?q1o2 (And.intro ?q1o3 (And.intro ?q1o4 (And.intro ?q1o5 (And.intro ?q1o6 (And.intro ?q1o7 (And.intro ?q1o8 (True.intro)))))))))
      case q1o0 =>
        intro w1 hI
        replace hI : (fun w => w.cell? ⟨p4, 0, none⟩ = some (.map (some mb)) ∧ p4 < w.heap.size) w1 := hI
        refine turn2_on (by rfl) ?_
        intro K hK
        have hc := hI.1
        go_simp
        refine hK _ _ ⟨rfl, Kept.refl _, ?_⟩
        show _ = _
        simp only [List.getD_cons_zero, List.getD_cons_succ, Array.getD_eq_getD_getElem?, List.getElem?_toArray, List.getElem?_cons_zero, List.getElem?_cons_succ, Option.getD_some]
        rfl
      case q1o1 =>
        intro w1 hI
        refine turn2_on (by rfl) ?_
        intro K hK
        go_simp
        refine hK _ _ ⟨rfl, Kept.refl _, ?_⟩
        show _ = _
        simp only [List.getD_cons_zero, List.getD_cons_succ, Array.getD_eq_getD_getElem?, List.getElem?_toArray, List.getElem?_cons_zero, List.getElem?_cons_succ, Option.getD_some]
        rfl
      case q1o2 =>
        intro w1 hI
        replace hI : (fun w => w.cell? ⟨p4, 0, none⟩ = some (.map (some mb)) ∧ p4 < w.heap.size) w1 := hI
        refine turn2_on (by rfl) ?_
        intro K hK
        have hc := hI.1
        go_simp
        refine hK _ _ ⟨rfl, Kept.refl _, ?_⟩
        show _ = _
        simp only [List.getD_cons_zero, List.getD_cons_succ, Array.getD_eq_getD_getElem?, List.getElem?_toArray, List.getElem?_cons_zero, List.getElem?_cons_succ, Option.getD_some]
        rfl
      case q1o3 =>
        intro w1 hI
        refine turn2_on (by rfl) ?_
        intro K hK
        go_simp
        refine hK _ _ ⟨rfl, Kept.refl _, ?_⟩
        show _ = _
        simp only [List.getD_cons_zero, List.getD_cons_succ, Array.getD_eq_getD_getElem?, List.getElem?_toArray, List.getElem?_cons_zero, List.getElem?_cons_succ, Option.getD_some]
        rfl
      case q1o4 =>
        intro w1 hI
        replace hI : (fun w => Gr w base mb cnt No S ∧ w0.heap.size ≤ w.heap.size) w1 := hI
        intro v2 h2
        change _ = _ at h2
        subst v2
        intro v3 h3
        change _ = _ at h3
        subst v3
        refine turn2_on (by rfl) ?_
        intro K hK
        simp only [List.getD_cons_zero, List.getD_cons_succ, List.setIfInBounds_toArray, List.set_cons_zero, List.set_cons_succ]
        obtain ⟨v0, hrun, l1, l2, l3, l4⟩ := hI.1.look hcnt q hq
        go_simp
        refine hK _ _ ⟨rfl, Kept.refl _, ?_⟩
        show LookAt _ _ _ _ _ _ _ _
        simp only [List.getD_cons_zero, List.getD_cons_succ, Array.getD_eq_getD_getElem?, List.getElem?_toArray, List.getElem?_cons_zero, List.getElem?_cons_succ, Option.getD_some]
        exact ⟨l1, l2, l3, fun w1 v' x a b c => l4 w1 v' x a b c (fun g hg => Nat.lt_of_lt_of_le (hNo g hg) hI.2)⟩
      case q1o5 =>
        intro w1 hI
        refine turn2_on (by rfl) ?_
        intro K hK
        go_simp
        refine hK _ _ ⟨rfl, Kept.refl _, ?_⟩
        show _ = _
        simp only [List.getD_cons_zero, List.getD_cons_succ, Array.getD_eq_getD_getElem?, List.getElem?_toArray, List.getElem?_cons_zero, List.getElem?_cons_succ, Option.getD_some]
        rfl
      case q1o6 =>
        intro w1 hI
        intro v5 h5
        change _ = _ at h5
        subst v5
        refine turn2_on (by rfl) ?_
        intro K hK
        simp only [List.getD_cons_zero, List.getD_cons_succ, List.setIfInBounds_toArray, List.set_cons_zero, List.set_cons_succ]
        go_simp
        refine hK _ _ ⟨rfl, (Below.refl _ _).alloc (Nat.le_refl _) _, ?_⟩
        show ∃ g, _ = _ ∧ RdAt _ _ _ _ _ _
        simp only [List.getD_cons_zero, List.getD_cons_succ, Array.getD_eq_getD_getElem?, List.getElem?_toArray, List.getElem?_cons_zero, List.getElem?_cons_succ, Option.getD_some]
        exact ⟨_, rfl, one_rd _ _ _ hiw⟩
      case q1o7 =>
        intro w1 hI
        replace hI : (fun w => base ≤ w.heap.size) w1 := hI
        intro v4 h4
        intro v6 h6
        obtain ⟨g6, rfl, h6⟩ := h6
        refine turn2_on (by rfl) ?_
        intro K hK
        simp only [List.getD_cons_zero, List.getD_cons_succ, List.setIfInBounds_toArray, List.set_cons_zero, List.set_cons_succ]
        obtain ⟨av, cv, rfl⟩ : ∃ a c, v4 = .slice a (S q).length c := h4.shape
        obtain ⟨i0, hi0, hz0, hz1, hz2⟩ := info_parts intInfo
        obtain ⟨v2, w2, hrun, a1, a2, a3, a4⟩ := run_append_own_at (P := Try.prog) w1 base 49 49 3 i0 (.int .i64 0) 1 8 Try.underlying49 hi0 hz0 hz1 hz2 rfl (by decide) _ _ _ h4.own.1 ⟨g6, 0, none⟩ 1 1 [.int .i64 (i : Int)] rfl (one_cell h6) (by simp [Value.oneCell']) (by have := h4.len; unfold maxLen; omega) (by have := h4.len; omega) hI
        have hoi := h4.own.appended a1 hiw
        have HA := h4.app (q := q) hoi a2 a4
        have HSP := h4.sp a2 a4
        obtain ⟨a5, c5, rfl⟩ : ∃ a c, v2 = .slice a ((S q).length + 1) c := ownsRow_shape a1
        clear a1 a2 a3 a4 hoi
        refine wp_append 20 rfl (T := 49) (.tmp 17) (.tmp 19) rfl w1 _ _ rfl rfl hrun (hK _ _ ⟨rfl, HSP, ?_⟩)
        show AppAt _ _ _ _ _ _ _ _
        simp only [List.getD_cons_zero, List.getD_cons_succ, Array.getD_eq_getD_getElem?, List.getElem?_toArray, List.getElem?_cons_zero, List.getElem?_cons_succ, Option.getD_some]
        exact HA
      case q1o8 =>
        intro w1 hI
        intro v0 h0
        change _ = _ at h0
        subst v0
        intro v1 h1
        change _ = _ at h1
        subst v1
        intro v7 h7
        refine turn2_on (by rfl) ?_
        intro K hK
        simp only [List.getD_cons_zero, List.getD_cons_succ, List.setIfInBounds_toArray, List.set_cons_zero, List.set_cons_succ]
        obtain ⟨w2, hrun, g1, g2⟩ := h7.run w1 (grown_refl _)
        go_simp
        refine hK _ _ ⟨rfl, Sp.of_map g2, ?_⟩
        exact g1
    intro wf hI
    replace hI : (fun w => Sp base mb No w0 w) wf := hI
    intro v0 h0
    replace h0 := h0 (by kernel_rfl)
    change _ = _ at h0
    subst v0
    intro v1 h1
    replace h1 := h1 (by kernel_rfl)
    change _ = _ at h1
    subst v1
    intro v2 h2
    replace h2 := h2 (by kernel_rfl)
    change _ = _ at h2
    subst v2
    intro v3 h3
    replace h3 := h3 (by kernel_rfl)
    change _ = _ at h3
    subst v3
    intro v4 _
    intro v5 h5
    replace h5 := h5 (by kernel_rfl)
    change _ = _ at h5
    subst v5
    intro v6 _
    intro v7 _
    intro v8 h8
    replace h8 := h8 (by kernel_rfl)
    simp only [Given, List.getD_cons_zero, List.getD_cons_succ, List.setIfInBounds_toArray, List.set_cons_zero, List.set_cons_succ]
    rw [hw0] at hI
    go_wp2
    go_end0
    exact ⟨⟨_, rfl⟩, by rw [HN.out]; exact h8, hI⟩
  · have d1 : decide ((i : Int) + 4 ≤ (n : Int)) = false := decide_eq_false (by omega)
    have HN : Hid (noteS b i S = S) := by show _ = _; unfold noteS; rw [if_neg (by omega)]
    have HG := Lib.hid hG.more
    clear hG hr
    go_enter Try.func20, Try.ntmps20
    go_wp2
    go_end0
    exact ⟨⟨_, rfl⟩, by rw [HN.out]; exact HG.out, Sp.refl _⟩
end Go.Proofs.Ytfoabnoolmeoiaa
