/- Regions that draw their order, some of whose operations write: each operation has its own way to turn the world; what an operation needs and what it leaves need only bear the operations that can come between. No program in sight. -/
import Derived.Test.YtfoabnoolmeoiaaFree
namespace Go.Proofs.Ytfoabnoolmeoiaa
open Go.RowKit
/-- Operation i comes behind operation j (a walk along the edges of so many steps). -/
def waits (l : List Oper) : Nat → Nat → Nat → Bool
  | 0, _, _ => false
  | f + 1, i, j => match l[i]? with
    | none => false
    | some o => (beforeOf o).any fun k => k == j || waits l f k j
section
variable (P : Program) (Gs : Nat → World → World → Prop) (I : Nat → World → Prop) (F : Nat → Value → World → Prop) (D : List Tmp) (ds : List Deferred)
def Turn2 (l : List Oper) (w : World) (o : Oper) (i : Nat) (t : Array Value) : Prop :=
  (Region.wanted o (yielded l.toArray t) = true → Oper.wp P o ⟨t, ds⟩ w (fun a' w' => a'.defers = ds ∧ Gs i w w' ∧ F i (a'.tmps.getD (D.getD i 0) undef) w') (fun _ _ _ => False)) ∧
  (Region.wanted o (yielded l.toArray t) = false → Gs i w w ∧ F i undef w)
def Obl2 (l : List Oper) (t0 : Array Value) (o : Oper) (i : Nat) (B : List Nat) : Prop :=
  ∀ w, I i w → Given F D w t0 B fun t => Turn2 P Gs F D ds l w o i t
def Obls2 (l : List Oper) (t0 : Array Value) : List Oper → Nat → List (List Nat) → Prop
  | o :: r, i, B :: Bs => Obl2 P Gs I F D ds l t0 o i B ∧ Obls2 l t0 r (i + 1) Bs
  | _, _, _ => True
end
def slotsOk2 (l : List Oper) (D : List Tmp) (Bs : List (List Nat)) (m : Nat) : Bool :=
  (List.range l.length).all fun i => match l[i]? with
    | none => true
    | some o => (match o.dst with | some d => d == D.getD i 0 && Nat.blt (D.getD i 0) m | none => Nat.ble m (D.getD i 0)) && (Bs.getD i []).all (fun j => (beforeOf o).contains j) && (beforeOf o).all (fun j => Nat.blt j i) &&
      (match o.op with | .select _ _ => false | _ => true) &&
      (o.looksAt l.toArray).all fun d => (List.range l.length).all fun j => D.getD j 0 != d || (Bs.getD i []).contains j || (match l[j]? with | some oj => (beforeOf oj).contains i | none => false)
section
variable {P : Program} {Gs : Nat → World → World → Prop} {I : Nat → World → Prop} {F : Nat → Value → World → Prop} {D : List Tmp} {ds : List Deferred} {l : List Oper} {t0 : Array Value}
theorem Obls2.get {Bs : List (List Nat)} : ∀ {r : List Oper} {k : Nat} {B : List (List Nat)}, Obls2 P Gs I F D ds l t0 r k B → B.length = r.length → ∀ i o, r[i]? = some o → Obl2 P Gs I F D ds l t0 o (k + i) (B.getD i [])
  | [], _, _, _, _, i, o, h => by simp at h
  | o :: r, k, [], h, hl, _, _, _ => by simp at hl
  | o :: r, k, B :: Bs', h, hl, 0, o', h' => by
    simp at h'
    subst h'
    exact h.1
  | o :: r, k, B :: Bs', h, hl, i + 1, o', h' => by
    have := Obls2.get (Bs := Bs) h.2 (by simpa using hl) i o' (by simpa using h')
    rw [show k + (i + 1) = k + 1 + i from by omega]
    simpa using this
theorem wp_same2 {o : Oper} {t t' : Array Value} {w : World} {d : Tmp} {Q : Exit → Act → World → Prop} {K : Act → World → Prop} {R : Value → World → Prop} (hsz : t.size = t'.size) (hd : (o.dst = some d ∧ d < t'.size) ∨ (o.dst = none ∧ t'.size ≤ d))
    (he : execOp (Act.mk t ds).eval o = execOp (Act.mk t' ds).eval o)
    (h : Oper.wp P o ⟨t', ds⟩ w (fun a' w' => a'.defers = ds ∧ R (a'.tmps.getD d undef) w') (fun _ _ _ => False)) (hK : ∀ v w', R v w' → K ⟨t.setIfInBounds d v, ds⟩ w') :
    Oper.wp P o ⟨t, ds⟩ w K Q := by
  rcases hd with ⟨hd, hdt⟩ | ⟨hd, hdt⟩
  · exact wp_same hd hdt he h hK
  · have hno : ∀ v : Value, t.setIfInBounds d v = t := fun v => Array.setIfInBounds_eq_of_size_le (by omega)
    have hget : t'.getD d undef = undef := by simp [Array.getD_eq_getD_getElem?, hdt]
    unfold Oper.wp at *
    rw [he]
    generalize (execOp (Act.mk t' ds).eval o).run P w = r at *
    have hput : ∀ v w', (((Act.mk t' ds).put o.dst v).defers = ds ∧ R (((Act.mk t' ds).put o.dst v).tmps.getD d undef) w') → K ((Act.mk t ds).put o.dst v) w' := by
      intro v w' ⟨_, hr⟩
      rw [hd] at hr ⊢
      simp only [Act.put, hget] at hr ⊢
      have := hK undef w' hr
      rwa [hno] at this
    cases r with
    | ok n w' =>
      cases n with
      | value v => exact hput v w' h
      | skip => exact hput undef w' h
      | enter f args =>
        refine Calls.mono h fun e w'' he' => ?_
        cases e with
        | returned v => exact hput v w'' he'
        | panicked c => exact he'.elim
        | outgrown => obtain ⟨_, _, hf⟩ := he'; exact hf.elim
      | row r args => exact Rows.mono h (fun v w'' hr => hput v w'' hr)
      | defer d' =>
        obtain ⟨hds, _⟩ := h
        rw [hd] at hds
        exact absurd hds (by simp [Act.put])
      | _ => exact h
    | halt x w' =>
      cases x with
      | panic v => exact h.elim
      | _ => exact h
structure Mid2 (l : List Oper) (I : Nat → World → Prop) (F : Nat → Value → World → Prop) (D : List Tmp) (n : Nat) (t0 : Array Value) (x : Nat → Value) (listed : Array Bool) (t : Array Value) (w : World) : Prop where
  size : listed.size = n
  tsize : t.size = t0.size
  here : ∀ j, j < n → listed.getD j true = true → (D.getD j 0 < t0.size → t[D.getD j 0]? = some (x j)) ∧ F j (x j) w
  wait : ∀ j, j < n → listed.getD j true = false → I j w
  fin : I n w
  other : ∀ d, (∀ j, j < n → listed.getD j true = true → D.getD j 0 ≠ d) → t[d]? = t0[d]?
  shut : ∀ j o, l[j]? = some o → listed.getD j true = true → ∀ k ∈ beforeOf o, listed.getD k true = true
theorem waits_listed {listed : Array Bool} (shut : ∀ j o, l[j]? = some o → listed.getD j true = true → ∀ k ∈ beforeOf o, listed.getD k true = true) :
    ∀ (f i j : Nat), waits l f i j = true → listed.getD i true = true → listed.getD j true = true
  | 0, _, _, h, _ => by simp [waits] at h
  | f + 1, i, j, h, hi => by
    unfold waits at h
    split at h
    · cases h
    · rename_i o ho
      obtain ⟨k, hk, hk2⟩ := List.any_eq_true.1 h
      have hlk := shut i o ho hi k hk
      rw [Bool.or_eq_true] at hk2
      rcases hk2 with e | e
      · rw [← (beq_iff_eq.1 e)]; exact hlk
      · exact waits_listed shut f k j e hlk
theorem reg_mid2 {Q : Exit → Act → World → Prop} {Bs : List (List Nat)} (f : Nat)
    (hF : ∀ i j v w w', i < l.length → j < l.length → j ≠ i → waits l f i j = false → F i v w → Gs j w w' → F i v w')
    (hI : ∀ i j w w', i ≤ l.length → j < l.length → j ≠ i → waits l f j i = false → I i w → Gs j w w' → I i w')
    (hok : slotsOk2 l D Bs t0.size = true) (hap : slotsApart D l.length = true) (hB : Bs.length = l.length) (ho : Obls2 P Gs I F D ds l t0 l 0 Bs)
    (hQ : ∀ w, I l.length w → Given F D w t0 (List.range l.length) fun t => Q .normal ⟨t, ds⟩ w) :
    ∀ (fuel : Nat) (x : Nat → Value) (listed : Array Bool) (t : Array Value) (w : World), Mid2 l I F D l.length t0 x listed t w → listed.toList.count false = fuel → wpAny P .any l.toArray Q fuel listed ⟨t, ds⟩ w := by
  have hapart : ∀ i j, i < l.length → j < l.length → D.getD i 0 = D.getD j 0 → i = j := by
    intro i j hi hj he
    unfold slotsApart at hap
    have := List.all_eq_true.1 (List.all_eq_true.1 hap i (by simpa using hi)) j (by simpa using hj)
    rw [Bool.or_eq_true] at this
    rcases this with h | h
    · simpa using h
    · rw [he] at h; simp at h
  have hslot : ∀ i o, l[i]? = some o → ((o.dst = some (D.getD i 0) ∧ D.getD i 0 < t0.size) ∨ (o.dst = none ∧ t0.size ≤ D.getD i 0)) ∧ (∀ j ∈ Bs.getD i [], j ∈ beforeOf o) ∧ (∀ j ∈ beforeOf o, j < i) ∧ (∀ cs b, o.op ≠ .select cs b) ∧
      ∀ d ∈ o.looksAt l.toArray, ∀ j oj, l[j]? = some oj → D.getD j 0 = d → j ∈ Bs.getD i [] ∨ i ∈ beforeOf oj := by
    intro i o h
    have hi : i < l.length := (List.getElem?_eq_some_iff.1 h).1
    unfold slotsOk2 at hok
    have h1 := List.all_eq_true.1 hok i (by simpa using hi)
    rw [h] at h1
    simp only [Bool.and_eq_true] at h1
    obtain ⟨⟨⟨⟨a, c⟩, d⟩, e⟩, g⟩ := h1
    refine ⟨?_, fun j hj => by simpa using List.all_eq_true.1 c j hj, fun j hj => by simpa using List.all_eq_true.1 d j hj, fun cs b' he => ?_, fun d' hd' j oj hj hjd => ?_⟩
    · cases hdst : o.dst with
      | none => rw [hdst] at a; exact .inr ⟨rfl, by simpa using a⟩
      | some d => rw [hdst, Bool.and_eq_true, beq_iff_eq] at a; exact .inl ⟨by rw [a.1], by simpa using a.2⟩
    · rw [he] at e; simp at e
    · have := List.all_eq_true.1 (List.all_eq_true.1 g d' hd') j (by simpa using (List.getElem?_eq_some_iff.1 hj).1)
      rw [hj] at this
      simp only [Bool.or_eq_true, bne_iff_ne, ne_eq, hjd, not_true_eq_false, false_or, List.contains_iff_mem] at this
      exact this
  have hfin : ∀ (x : Nat → Value) (listed : Array Bool) (t : Array Value) (w : World), Mid2 l I F D l.length t0 x listed t w → (∀ j, j < l.length → listed.getD j true = true) → Q .normal ⟨t, ds⟩ w := by
    intro x listed t w hm hall
    have h1 := (hQ w hm.fin).use x (fun j hj => (hm.here j (by simpa using hj) (hall j (by simpa using hj))).2)
    have h2 : (List.range l.length).foldl (fun t j => t.setIfInBounds (D.getD j 0) (x j)) t0 = t := by
      apply Array.ext_getElem?
      intro d
      by_cases hd : ∃ j, j < l.length ∧ D.getD j 0 = d
      · obtain ⟨j, hj, rfl⟩ := hd
        by_cases hin : D.getD j 0 < t0.size
        · rw [fold_at x _ _ (by simpa using hj) (fun k hk e => hapart k j (by simpa using hk) hj e) hin, (hm.here j hj (hall j hj)).1 hin]
        · have hin' : t0.size ≤ D.getD j 0 := Nat.le_of_not_lt hin
          have e1 : ((List.range l.length).foldl (fun t j => t.setIfInBounds (D.getD j 0) (x j)) t0).size ≤ D.getD j 0 := by rw [fold_size]; omega
          have e2 : t.size ≤ D.getD j 0 := by rw [hm.tsize]; omega
          rw [Array.getElem?_eq_none e1, Array.getElem?_eq_none e2]
      · rw [fold_other x _ _ (fun j hj e => hd ⟨j, by simpa using hj, e⟩), hm.other d (fun j hj _ e => hd ⟨j, hj, e⟩)]
    rw [h2] at h1
    exact h1
  have hnil : ∀ (x : Nat → Value) (listed : Array Bool) (t : Array Value) (w : World), Mid2 l I F D l.length t0 x listed t w → Region.ready .any l.toArray listed = [] → ∀ j, j < l.length → listed.getD j true = true := by
    intro x listed t w hm hr j
    induction j using Nat.strongRecOn with
    | _ j ih =>
      intro hj
      cases hu : listed.getD j true with
      | true => rfl
      | false =>
        obtain ⟨o, hoj⟩ : ∃ o, l[j]? = some o := ⟨_, List.getElem?_eq_getElem hj⟩
        obtain ⟨_, _, hlt, _, _⟩ := hslot j o hoj
        have := ready_of hoj hu (fun k hk => by
          have hkj := hlt k hk
          rw [getD_any false true (by rw [hm.size]; omega)]
          exact ih k hkj (by omega))
        rw [hr] at this
        cases this
  intro fuel
  induction fuel with
  | zero =>
    intro x listed t w hm hc
    have hall : ∀ j, j < l.length → listed.getD j true = true := by
      intro j hj
      have hjs : j < listed.size := by rw [hm.size]; exact hj
      have h0 : false ∉ listed.toList := List.count_eq_zero.1 hc
      cases hu : listed.getD j true with
      | true => rfl
      | false =>
        have : listed.toList[j] = false := by simpa [Array.getD, hjs] using hu
        exact absurd (this ▸ List.getElem_mem _) h0
    refine ⟨?_, hfin x listed t w hm hall⟩
    cases hr : Region.ready .any l.toArray listed with
    | nil => rfl
    | cons i r =>
      obtain ⟨o, hoi, hu, _⟩ := ready_mem (l := l) (listed := listed) (i := i) (by rw [hr]; simp)
      rw [hall i (List.getElem?_eq_some_iff.1 hoi).1] at hu
      cases hu
  | succ fuel ih =>
    intro x listed t w hm hc
    refine ⟨fun hr => hfin x listed t w hm (hnil x listed t w hm hr), fun i hi => ?_⟩
    obtain ⟨o, hoi, hu, hbk⟩ := ready_mem hi
    have hil : i < l.length := (List.getElem?_eq_some_iff.1 hoi).1
    have his : i < listed.size := by rw [hm.size]; exact hil
    obtain ⟨hdst, hbf, hbl, hsel, hlook⟩ := hslot i o hoi
    have hbk' : ∀ k ∈ beforeOf o, k < l.length ∧ listed.getD k true = true := fun k hk => by
      have := hbl k hk
      exact ⟨by omega, by rw [getD_any true false (by rw [hm.size]; omega)]; exact hbk k hk⟩
    have hob := ho.get (Bs := Bs) hB i o hoi
    rw [Nat.zero_add] at hob
    have h1 := (hob w (hm.wait i hil hu)).use x (fun j hj => (hm.here j (hbk' j (hbf j hj)).1 (hbk' j (hbf j hj)).2).2)
    have hsame : ∀ d ∈ o.looksAt l.toArray, t[d]? = ((Bs.getD i []).foldl (fun t j => t.setIfInBounds (D.getD j 0) (x j)) t0)[d]? := by
      intro d hd
      by_cases hx : ∃ j, j < l.length ∧ D.getD j 0 = d ∧ j ∈ Bs.getD i []
      · obtain ⟨j, hj, rfl, hjb⟩ := hx
        by_cases hin : D.getD j 0 < t0.size
        · rw [(hm.here j hj (hbk' j (hbf j hjb)).2).1 hin, fold_at x _ _ hjb (fun k hk e => hapart k j (hbk' k (hbf k hk)).1 hj e) hin]
        · have hin' : t0.size ≤ D.getD j 0 := Nat.le_of_not_lt hin
          have e1 : ((Bs.getD i []).foldl (fun t j => t.setIfInBounds (D.getD j 0) (x j)) t0).size ≤ D.getD j 0 := by rw [fold_size]; omega
          have e2 : t.size ≤ D.getD j 0 := by rw [hm.tsize]; omega
          rw [Array.getElem?_eq_none e1, Array.getElem?_eq_none e2]
      · rw [fold_other x _ _ (fun j hj e => hx ⟨j, (hbk' j (hbf j hj)).1, e, hj⟩)]
        refine hm.other d fun j hj hjl e => ?_
        obtain ⟨oj, hoj⟩ : ∃ o, l[j]? = some o := ⟨_, List.getElem?_eq_getElem hj⟩
        rcases hlook d hd j oj hoj e with h | h
        · exact hx ⟨j, hj, e, h⟩
        · have := hm.shut j oj hoj hjl i h
          rw [hu] at this
          cases this
    have hnext : ∀ v w', Gs i w w' → F i v w' → wpAny P .any l.toArray Q fuel (listed.setIfInBounds i true) ⟨t.setIfInBounds (D.getD i 0) v, ds⟩ w' := by
      intro v w' hg hf
      refine ih (fun j => if j = i then v else x j) _ _ _ ⟨by simp [hm.size], by simp [hm.tsize], fun j hj hl => ?_, fun j hj hl => ?_, ?_, fun d hd => ?_, fun j oj hoj hl k hk => ?_⟩ (by have := count_set his hu; omega)
      · rw [getD_set his] at hl
        by_cases hji : i = j
        · subst hji
          refine ⟨fun hlt => ?_, by rw [if_pos rfl]; exact hf⟩
          rw [Array.getElem?_setIfInBounds_self, if_pos (by rw [hm.tsize]; exact hlt), if_pos rfl]
        · rw [if_neg hji] at hl
          obtain ⟨h2, h3⟩ := hm.here j hj hl
          rw [Array.getElem?_setIfInBounds_ne (fun e => hji (hapart i j hil hj e)), if_neg (fun e => hji e.symm)]
          refine ⟨h2, hF j i _ _ _ hj hil hji ?_ h3 hg⟩
          cases hw : waits l f j i with
          | false => rfl
          | true =>
            have := waits_listed hm.shut f j i hw hl
            rw [hu] at this
            cases this
      · rw [getD_set his] at hl
        by_cases hji : i = j
        · rw [if_pos hji] at hl; cases hl
        · rw [if_neg hji] at hl
          refine hI j i _ _ (by omega) hil hji ?_ (hm.wait j hj hl) hg
          cases hw : waits l f i j with
          | false => rfl
          | true =>
            exfalso
            have hset : ∀ q p, l[q]? = some p → (listed.setIfInBounds i true).getD q true = true → ∀ k ∈ beforeOf p, (listed.setIfInBounds i true).getD k true = true := by
              intro q p hq hlq k hk
              rw [getD_set his] at hlq ⊢
              by_cases hki : i = k
              · rw [if_pos hki]
              · rw [if_neg hki]
                by_cases hqi : i = q
                · subst hqi
                  obtain rfl : o = p := by rw [hoi] at hq; exact Option.some.inj hq
                  exact (hbk' k hk).2
                · rw [if_neg hqi] at hlq
                  exact hm.shut q p hq hlq k hk
            have := waits_listed hset f i j hw (by rw [getD_set his, if_pos rfl])
            rw [getD_set his, if_neg hji, hl] at this
            cases this
      · refine hI l.length i _ _ (Nat.le_refl _) hil (by omega) ?_ hm.fin hg
        cases hw : waits l f i l.length with
        | false => rfl
        | true =>
          exfalso
          have : ∀ (f q : Nat), waits l f q l.length = true → False := by
            intro f
            induction f with
            | zero => intro q h; simp [waits] at h
            | succ f ihf =>
              intro q h
              unfold waits at h
              split at h
              · cases h
              · rename_i p hp
                obtain ⟨k, hk, hk2⟩ := List.any_eq_true.1 h
                rw [Bool.or_eq_true] at hk2
                rcases hk2 with e | e
                · have := (hslot q p hp).2.2.1 k hk
                  have hq : q < l.length := (List.getElem?_eq_some_iff.1 hp).1
                  rw [beq_iff_eq.1 e] at this
                  omega
                · exact ihf k e
          exact this f i hw
      · have hdi : D.getD i 0 ≠ d := hd i hil (by rw [getD_set his, if_pos rfl])
        rw [Array.getElem?_setIfInBounds_ne hdi]
        exact hm.other d fun j hj hl => hd j hj (by rw [getD_set his]; split <;> simp [hl])
      · rw [getD_set his] at hl ⊢
        by_cases hki : i = k
        · rw [if_pos hki]
        · rw [if_neg hki]
          by_cases hji : i = j
          · subst hji
            obtain rfl : o = oj := by rw [hoi] at hoj; exact Option.some.inj hoj
            exact (hbk' k hk).2
          · rw [if_neg hji] at hl
            exact hm.shut j oj hoj hl k hk
    have hw := wanted_same (o := o) hsame
    unfold wpOp
    rw [show l.toArray[i]? = some o by simpa using hoi]
    show if Region.wanted o (yielded l.toArray t) = true then _ else _
    rw [hw]
    split
    · rename_i hwt
      replace h1 := h1.1 hwt
      refine .inl ?_
      exact wp_same2 (R := fun v w' => Gs i w w' ∧ F i v w') (by rw [fold_size, hm.tsize]) (by rw [fold_size]; exact hdst) (exec_same hsel hsame) h1 (fun v w' hr => hnext v w' hr.1 hr.2)
    · rename_i hwt
      replace h1 := h1.2 (by simpa using hwt)
      have hn := hnext undef w h1.1 h1.2
      rcases hdst with ⟨hd1, _⟩ | ⟨hd1, hd2⟩
      · rw [hd1]; exact hn
      · rw [hd1]
        have e2 : t.setIfInBounds (D.getD i 0) undef = t := Array.setIfInBounds_eq_of_size_le (by rw [hm.tsize]; exact hd2)
        rw [e2] at hn
        exact hn
/-- The ways of the operations that write; all others keep what was there. -/
def pickG : List (Nat × (World → World → Prop)) → Nat → World → World → Prop
  | [], _ => Kept
  | (s, G) :: r, j => if j = s then G else pickG r j
def pickI : List (Nat × (World → Prop)) → Nat → World → Prop
  | [], _, _ => True
  | (s, p) :: r, i, w => if i = s then p w else pickI r i w
/-- What is left by each operation bears a writing operation, or the operation comes behind it. -/
def AllBear (l : List Oper) (f : Nat) (s : Nat) (G : World → World → Prop) : List (Value → World → Prop) → Nat → Prop
  | [], _ => True
  | p :: r, i => (Stays G p ∨ waits l f i s = true ∨ i = s) ∧ AllBear l f s G r (i + 1)
def BearAll (l : List Oper) (f : Nat) (L : List (Value → World → Prop)) : List (Nat × (World → World → Prop)) → Prop
  | [] => True
  | (s, G) :: r => AllBear l f s G L 0 ∧ BearAll l f L r
def StaysI (G : World → World → Prop) (p : World → Prop) : Prop := ∀ w w', p w → G w w' → p w'
def AllBearI (l : List Oper) (f : Nat) (s : Nat) (G : World → World → Prop) : List (Nat × (World → Prop)) → Prop
  | [] => True
  | (i, p) :: r => (StaysI G p ∨ waits l f s i = true ∨ s = i) ∧ AllBearI l f s G r
def BearAllI (l : List Oper) (f : Nat) (L : List (Nat × (World → Prop))) : List (Nat × (World → World → Prop)) → Prop
  | [] => True
  | (s, G) :: r => AllBearI l f s G L ∧ BearAllI l f L r
def AllKeepI : List (Nat × (World → Prop)) → Prop
  | [] => True
  | (_, p) :: r => StaysI Kept p ∧ AllKeepI r
theorem AllBear.get {f s : Nat} {G : World → World → Prop} : ∀ {L : List (Value → World → Prop)} {k : Nat}, AllBear l f s G L k → ∀ i v w w', s ≠ k + i → waits l f (k + i) s = false → pickF L i v w → G w w' → pickF L i v w'
  | [], _, _, _, _, _, _, _, _, _, _ => by simp [pickF]
  | p :: r, k, h, 0, v, w, w', hs, hw, hp, hg => by
    rcases h.1 with h1 | h1 | h1
    · exact h1 v w w' hp hg
    · rw [Nat.add_zero] at hw; rw [hw] at h1; cases h1
    · exact absurd h1.symm hs
  | p :: r, k, h, i + 1, v, w, w', hs, hw, hp, hg =>
    AllBear.get (L := r) (k := k + 1) h.2 i v w w' (by omega) (by rw [show k + 1 + i = k + (i + 1) by omega]; exact hw) hp hg
theorem AllBearI.get {f s : Nat} {G : World → World → Prop} : ∀ {L : List (Nat × (World → Prop))}, AllBearI l f s G L → ∀ i w w', s ≠ i → waits l f s i = false → pickI L i w → G w w' → pickI L i w'
  | [], _, _, _, _, _, _, _, _ => trivial
  | (k, p) :: r, h, i, w, w', hs, hw, hp, hg => by
    unfold pickI at hp ⊢
    by_cases e : i = k
    · rw [if_pos e] at hp ⊢
      rcases h.1 with h1 | h1 | h1
      · exact h1 w w' hp hg
      · rw [← e, hw] at h1; cases h1
      · exact absurd (h1.trans e.symm) hs
    · rw [if_neg e] at hp ⊢
      exact AllBearI.get (L := r) h.2 i w w' hs hw hp hg
theorem keepI_get : ∀ {L : List (Nat × (World → Prop))}, AllKeepI L → ∀ i w w', pickI L i w → Kept w w' → pickI L i w'
  | [], _, _, _, _, _, _ => trivial
  | (k, p) :: r, h, i, w, w', hp, hg => by
    unfold pickI at hp ⊢
    by_cases e : i = k
    · rw [if_pos e] at hp ⊢; exact h.1 w w' hp hg
    · rw [if_neg e] at hp ⊢; exact keepI_get (L := r) h.2 i w w' hp hg
theorem bear_get {f : Nat} {L : List (Value → World → Prop)} (hk : AllStay Kept L) : ∀ {S : List (Nat × (World → World → Prop))}, BearAll l f L S → ∀ i j v w w', j ≠ i → waits l f i j = false → pickF L i v w → pickG S j w w' → pickF L i v w'
  | [], _, i, _, v, w, w', _, _, hp, hg => pick_stays hk i v w w' hp hg
  | (s, G) :: r, h, i, j, v, w, w', hne, hw, hp, hg => by
    unfold pickG at hg
    by_cases e : j = s
    · rw [if_pos e] at hg
      subst e
      have := AllBear.get h.1 i v w w' (by rw [Nat.zero_add]; exact hne) (by rw [Nat.zero_add]; exact hw) hp hg
      exact this
    · rw [if_neg e] at hg
      exact bear_get hk (S := r) h.2 i j v w w' hne hw hp hg
theorem bearI_get {f : Nat} {L : List (Nat × (World → Prop))} (hk : AllKeepI L) : ∀ {S : List (Nat × (World → World → Prop))}, BearAllI l f L S → ∀ i j w w', j ≠ i → waits l f j i = false → pickI L i w → pickG S j w w' → pickI L i w'
  | [], _, i, _, w, w', _, _, hp, hg => keepI_get hk i w w' hp hg
  | (s, G) :: r, h, i, j, w, w', hne, hw, hp, hg => by
    unfold pickG at hg
    by_cases e : j = s
    · rw [if_pos e] at hg
      subst e
      exact AllBearI.get h.1 i w w' hne hw hp hg
    · rw [if_neg e] at hg
      exact bearI_get hk (S := r) h.2 i j w w' hne hw hp hg
def HoldI (w : World) : List (Nat × (World → Prop)) → Prop
  | [] => True
  | (_, p) :: r => p w ∧ HoldI w r
theorem hold_get {w : World} : ∀ {L : List (Nat × (World → Prop))}, HoldI w L → ∀ i, pickI L i w
  | [], _, _ => trivial
  | (k, p) :: r, h, i => by
    unfold pickI
    by_cases e : i = k
    · rw [if_pos e]; exact h.1
    · rw [if_neg e]; exact hold_get (L := r) h.2 i
theorem reg_order {Q : Exit → Act → World → Prop} {id : Nat} {w : World} (L : List (Value → World → Prop)) (S : List (Nat × (World → World → Prop))) (IL : List (Nat × (World → Prop))) (D : List Tmp) (Bs : List (List Nat)) (Ns : List Nat) (f : Nat) (hm : P.follows .mixedOrders = true)
    (hLk : AllStay Kept L) (hLS : BearAll l f L S) (hIk : AllKeepI IL) (hIS : BearAllI l f IL S) (h0 : HoldI w.drew IL)
    (m : Nat) (hsz : t0.size = m) (hok : slotsOk2 l D Bs m = true) (hap : slotsApart D l.length = true) (hB : Bs.length = l.length) (hN : List.range l.length = Ns) (n : Nat) (hn : l.length = n) (ho : Obls2 P (pickG S) (pickI IL) (pickF L) D ds l t0 l 0 Bs)
    (hQ : ∀ w', pickI IL n w' → Given (pickF L) D w' t0 Ns fun t => Q .normal ⟨t, ds⟩ w') : (Code.region id l.toArray true).wp P Q ⟨t0, ds⟩ w := by
  subst hsz
  subst hN
  subst hn
  refine wp_region_any hm (reg_mid2 f (fun i j v w w' _ _ hne hw hp hg => bear_get hLk hLS i j v w w' hne hw hp hg) (fun i j w w' _ _ hne hw hp hg => bearI_get hIk hIS i j w w' hne hw hp hg) hok hap hB ho hQ _ (fun _ => undef) _ _ _ ⟨by simp, rfl, fun j hj hl => ?_, fun j hj _ => hold_get h0 j, hold_get h0 _, fun d _ => rfl, fun j oj hoj hl => ?_⟩ (by simp))
  · simp [Array.getD, hj] at hl
  · simp [Array.getD, (List.getElem?_eq_some_iff.1 hoj).1] at hl
theorem turn2_on {Gs : Nat → World → World → Prop} {o : Oper} {i : Nat} {t : Array Value} {w : World} (hc : Region.wanted o (yielded l.toArray t) = true)
    (h : ∀ K : Act → World → Prop, (∀ a' w', (a'.defers = ds ∧ Gs i w w' ∧ F i (a'.tmps.getD (D.getD i 0) undef) w') → K a' w') → Oper.wp P o ⟨t, ds⟩ w K (fun _ _ _ => False)) :
    Turn2 P Gs F D ds l w o i t := ⟨fun _ => h _ (fun _ _ h => h), fun h' => by rw [hc] at h'; cases h'⟩
theorem turn2_off {Gs : Nat → World → World → Prop} {o : Oper} {i : Nat} {t : Array Value} {w : World} (hc : Region.wanted o (yielded l.toArray t) = false) (h1 : Gs i w w) (h : F i undef w) : Turn2 P Gs F D ds l w o i t :=
  ⟨fun h' => absurd (hc.symm.trans h') (by simp), fun _ => ⟨h1, h⟩⟩
end
end Go.Proofs.Ytfoabnoolmeoiaa
