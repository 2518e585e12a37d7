/- Regions that draw their order: one obligation an operation, whatever the order. No program in sight. -/
import Derived.Below
import Derived.ProofKit
import Derived.RegionTactic
namespace Go.Proofs.Ytfoabnoolmeoiaa
open Go.RowKit

/-- Which operations an operation waits for. -/
def beforeOf (o : Oper) : List Nat := (o.after.toList.filter (Region.binds .any)).map (·.on)

section
variable (P : Program) (G : World → World → Prop) (F : Nat → Value → World → Prop) (D : List Tmp) (ds : List Deferred)

/-- The values of some operations, each as it may be, laid in their slots. -/
def Given (w : World) : Array Value → List Nat → (Array Value → Prop) → Prop
  | t, [], k => k t
  | t, j :: r, k => ∀ v, F j v w → Given w (t.setIfInBounds (D.getD j 0) v) r k
/-- What is to be shown of one operation. -/
def Turn (l : List Oper) (w : World) (o : Oper) (i : Nat) (t : Array Value) : Prop :=
  (Region.wanted o (yielded l.toArray t) = true → Oper.wp P o ⟨t, ds⟩ w (fun a' w' => a'.defers = ds ∧ G w w' ∧ F i (a'.tmps.getD (D.getD i 0) undef) w') (fun _ _ _ => False)) ∧
  (Region.wanted o (yielded l.toArray t) = false → F i undef w)
def Obl (l : List Oper) (w0 : World) (t0 : Array Value) (o : Oper) (i : Nat) (B : List Nat) : Prop :=
  ∀ w, G w0 w → Given F D w t0 B fun t => Turn P G F D ds l w o i t
def Obls (l : List Oper) (w0 : World) (t0 : Array Value) : List Oper → Nat → List (List Nat) → Prop
  | o :: r, i, B :: Bs => Obl P G F D ds l w0 t0 o i B ∧ Obls l w0 t0 r (i + 1) Bs
  | _, _, _ => True
end

/-- The slots' facts that are read off the text alone. -/
def slotsOk (l : List Oper) (D : List Tmp) (Bs : List (List Nat)) (m : Nat) : Bool :=
  (List.range l.length).all fun i => match l[i]? with
    | none => true
    | some o => o.dst == some (D.getD i 0) && Nat.blt (D.getD i 0) m && (Bs.getD i []).all (fun j => (beforeOf o).contains j) && (beforeOf o).all (fun j => Nat.blt j i) &&
      (match o.op with | .select _ _ => false | _ => true) &&
      (o.looksAt l.toArray).all fun d => (List.range l.length).all fun j => D.getD j 0 != d || (Bs.getD i []).contains j || (match l[j]? with | some oj => (beforeOf oj).contains i | none => false)
def slotsApart (D : List Tmp) (n : Nat) : Bool := (List.range n).all fun i => (List.range n).all fun j => i == j || D.getD i 0 != D.getD j 0

section
variable {P : Program} {G : World → World → Prop} {F : Nat → Value → World → Prop} {D : List Tmp} {ds : List Deferred} {l : List Oper} {w0 : World} {t0 : Array Value}

theorem Obls.get {Bs : List (List Nat)} : ∀ {r : List Oper} {k : Nat} {B : List (List Nat)}, Obls P G F D ds l w0 t0 r k B → B.length = r.length → ∀ i o, r[i]? = some o → Obl P G F D ds l w0 t0 o (k + i) (B.getD i [])
  | [], _, _, _, _, i, o, h => by simp at h
  | o :: r, k, [], h, hl, _, _, _ => by simp at hl
  | o :: r, k, B :: Bs', h, hl, 0, o', h' => by
    simp at h'
    subst h'
    exact h.1
  | o :: r, k, B :: Bs', h, hl, i + 1, o', h' => by
    have := Obls.get (Bs := Bs) h.2 (by simpa using hl) i o' (by simpa using h')
    rw [show k + (i + 1) = k + 1 + i from by omega]
    simpa using this

theorem Given.use {w : World} {k : Array Value → Prop} (x : Nat → Value) : ∀ {B : List Nat} {t : Array Value}, Given F D w t B k → (∀ j ∈ B, F j (x j) w) → k (B.foldl (fun t j => t.setIfInBounds (D.getD j 0) (x j)) t)
  | [], _, h, _ => h
  | j :: r, t, h, hf => Given.use (B := r) (t := t.setIfInBounds (D.getD j 0) (x j)) x (h (x j) (hf j (by simp))) (fun i hi => hf i (by simp [hi]))

theorem fold_size (x : Nat → Value) : ∀ (B : List Nat) (t : Array Value), (B.foldl (fun t j => t.setIfInBounds (D.getD j 0) (x j)) t).size = t.size
  | [], _ => rfl
  | j :: r, t => by rw [List.foldl_cons, fold_size x r]; simp
theorem fold_other (x : Nat → Value) {d : Tmp} : ∀ (B : List Nat) (t : Array Value), (∀ j ∈ B, D.getD j 0 ≠ d) → (B.foldl (fun t j => t.setIfInBounds (D.getD j 0) (x j)) t)[d]? = t[d]?
  | [], _, _ => rfl
  | j :: r, t, h => by
    rw [List.foldl_cons, fold_other x r _ (fun i hi => h i (by simp [hi])), Array.getElem?_setIfInBounds_ne (h j (by simp))]
theorem fold_at (x : Nat → Value) {k : Nat} : ∀ (B : List Nat) (t : Array Value), k ∈ B → (∀ j ∈ B, D.getD j 0 = D.getD k 0 → j = k) → D.getD k 0 < t.size → (B.foldl (fun t j => t.setIfInBounds (D.getD j 0) (x j)) t)[D.getD k 0]? = some (x k)
  | [], _, h, _, _ => by cases h
  | j :: r, t, h, hu, hs => by
    rw [List.foldl_cons]
    by_cases hk : k ∈ r
    · exact fold_at x r _ hk (fun i hi => hu i (by simp [hi])) (by simpa using hs)
    · obtain rfl : k = j := by
        rcases List.mem_cons.1 h with h | h
        · exact h
        · exact absurd h hk
      rw [fold_other x r _ (fun i hi e => hk (hu i (by simp [hi]) e ▸ hi)), Array.getElem?_setIfInBounds_self]
      exact if_pos hs

theorem wanted_same {o : Oper} {ops : Array Oper} {t t' : Array Value} (h : ∀ d ∈ o.looksAt ops, t[d]? = t'[d]?) : Region.wanted o (yielded ops t) = Region.wanted o (yielded ops t') := by
  unfold Region.wanted
  cases hg : o.guard with
  | none => rfl
  | some gw =>
    obtain ⟨g, want⟩ := gw
    have hy : yielded ops t g = yielded ops t' g := by
      unfold yielded
      cases ht : (ops[g]?).bind (·.dst) with
      | none => rfl
      | some d =>
        have := h d (by simp [Oper.looksAt, hg, ht])
        simp only [Option.bind_some]
        rw [this]
    simp only [hy]
theorem exec_same {o : Oper} {ops : Array Oper} {t t' : Array Value} (hs : ∀ cs b, o.op ≠ .select cs b) (h : ∀ d ∈ o.looksAt ops, t[d]? = t'[d]?) : execOp (Act.mk t ds).eval o = execOp (Act.mk t' ds).eval o :=
  execOp_congr o hs fun x hx => by
    cases x with
    | tmp d =>
      have := h d (List.mem_append_left _ (List.mem_filterMap.2 ⟨.tmp d, by simpa using hx, rfl⟩))
      simp [Act.eval, Array.getD_eq_getD_getElem?, this]
    | _ => rfl

/-- What is shown over the slots that are looked at holds over all. -/
theorem wp_same {o : Oper} {t t' : Array Value} {w : World} {d : Tmp} {Q : Exit → Act → World → Prop} {K : Act → World → Prop} {R : Value → World → Prop} (hd : o.dst = some d) (hdt : d < t'.size)
    (he : execOp (Act.mk t ds).eval o = execOp (Act.mk t' ds).eval o)
    (h : Oper.wp P o ⟨t', ds⟩ w (fun a' w' => a'.defers = ds ∧ R (a'.tmps.getD d undef) w') (fun _ _ _ => False)) (hK : ∀ v w', R v w' → K ⟨t.setIfInBounds d v, ds⟩ w') :
    Oper.wp P o ⟨t, ds⟩ w K Q := by
  have hget : ∀ v : Value, (t'.setIfInBounds d v).getD d undef = v := fun v => by
    simp [Array.getD_eq_getD_getElem?, hdt]
  unfold Oper.wp at *
  rw [he]
  generalize (execOp (Act.mk t' ds).eval o).run P w = r at *
  have hput : ∀ v w', (((Act.mk t' ds).put o.dst v).defers = ds ∧ R (((Act.mk t' ds).put o.dst v).tmps.getD d undef) w') → K ((Act.mk t ds).put o.dst v) w' := by
    intro v w' ⟨_, hr⟩
    rw [hd] at hr ⊢
    simp only [Act.put, hget] at hr ⊢
    exact hK v w' hr
  cases r with
  | ok n w' =>
    cases n with
    | value v => exact hput v w' h
    | skip => exact hput undef w' h
    | enter f args => 
      refine Calls.mono h fun e w'' he' => ?_
      cases e with
      | returned v => exact hput v w'' he'
      | panicked c => exact he'.elim
      | outgrown => obtain ⟨_, _, hf⟩ := he'; exact hf.elim
    | row r args => exact Rows.mono h (fun v w'' hr => hput v w'' hr)
    | defer d' =>
      obtain ⟨hds, _⟩ := h
      rw [hd] at hds
      exact absurd hds (by simp [Act.put])
    | _ => exact h
  | halt x w' =>
    cases x with
    | panic v => exact h.elim
    | _ => exact h

/-- How far a region is: what is laid in the slots, by whichever order. -/
structure Mid (l : List Oper) (G : World → World → Prop) (F : Nat → Value → World → Prop) (D : List Tmp) (n : Nat) (w0 : World) (t0 : Array Value) (x : Nat → Value) (listed : Array Bool) (t : Array Value) (w : World) : Prop where
  size : listed.size = n
  went : G w0 w
  tsize : t.size = t0.size
  here : ∀ j, j < n → listed.getD j true = true → t[D.getD j 0]? = some (x j) ∧ F j (x j) w
  other : ∀ d, (∀ j, j < n → listed.getD j true = true → D.getD j 0 ≠ d) → t[d]? = t0[d]?
  shut : ∀ j o, l[j]? = some o → listed.getD j true = true → ∀ k ∈ beforeOf o, listed.getD k true = true

theorem count_set {listed : Array Bool} {i : Nat} (hi : i < listed.size) (h : listed.getD i true = false) : (listed.setIfInBounds i true).toList.count false + 1 = listed.toList.count false := by
  have h1 : listed.toList[i] = false := by simpa [Array.getD, hi] using h
  have hm : 0 < listed.toList.count false := List.count_pos_iff.2 (h1 ▸ List.getElem_mem _)
  rw [Array.toList_setIfInBounds, List.count_set (by simpa using hi)]
  rw [h1]
  show listed.toList.count false - 1 + 0 + 1 = listed.toList.count false
  omega

theorem getD_set {listed : Array Bool} {i j : Nat} (hi : i < listed.size) : (listed.setIfInBounds i true).getD j true = if i = j then true else listed.getD j true := by
  simp only [Array.getD_eq_getD_getElem?]
  by_cases h : i = j
  · subst h
    rw [Array.getElem?_setIfInBounds_self, if_pos hi, if_pos rfl]; rfl
  · rw [Array.getElem?_setIfInBounds_ne h, if_neg h]
theorem getD_any {listed : Array Bool} {j : Nat} (b c : Bool) (h : j < listed.size) : listed.getD j b = listed.getD j c := by simp [Array.getD, h]

/-- An operation whose turn has come waits for those alone that are listed. -/
theorem ready_mem {listed : Array Bool} {i : Nat} (h : i ∈ Region.ready .any l.toArray listed) : ∃ o, l[i]? = some o ∧ listed.getD i true = false ∧ ∀ k ∈ beforeOf o, listed.getD k false = true := by
  unfold Region.ready at h
  rw [List.mem_filter] at h
  obtain ⟨hi, hr⟩ := h
  rw [Bool.and_eq_true] at hr
  cases ho : l.toArray[i]? with
  | none => rw [ho] at hr; simp at hr
  | some o =>
    rw [ho] at hr
    refine ⟨o, by simpa using ho, by simpa using hr.1, fun k hk => ?_⟩
    unfold beforeOf at hk
    obtain ⟨e, he, rfl⟩ := List.mem_map.1 hk
    obtain ⟨he1, he2⟩ := List.mem_filter.1 he
    have := Array.all_eq_true_iff_forall_mem.1 (show o.after.all _ = true from hr.2) e (by simpa using he1)
    simpa [he2] using this
theorem ready_of {listed : Array Bool} {i : Nat} {o : Oper} (ho : l[i]? = some o) (hu : listed.getD i true = false) (hb : ∀ k ∈ beforeOf o, listed.getD k false = true) : i ∈ Region.ready .any l.toArray listed := by
  unfold Region.ready
  rw [List.mem_filter]
  have hi : i < l.length := (List.getElem?_eq_some_iff.1 ho).1
  refine ⟨by simpa using hi, ?_⟩
  rw [Bool.and_eq_true]
  refine ⟨by simp [hu], ?_⟩
  rw [show l.toArray[i]? = some o by simpa using ho]
  show (o.after.all _) = true
  refine Array.all_eq_true_iff_forall_mem.2 fun e he => ?_
  by_cases h : Region.binds .any e = true
  · have := hb e.on (List.mem_map.2 ⟨e, List.mem_filter.2 ⟨by simpa using he, h⟩, rfl⟩)
    simp [this]
  · simp [h]

/-- A REGION THAT DRAWS ITS ORDER, BY ONE OBLIGATION AN OPERATION. -/
theorem reg_mid {Q : Exit → Act → World → Prop} {Bs : List (List Nat)} (hR : ∀ a, G a a) (hG : ∀ a b c, G a b → G b c → G a c) (hF : ∀ i v w w', F i v w → G w w' → F i v w')
    (hok : slotsOk l D Bs t0.size = true) (hap : slotsApart D l.length = true) (hB : Bs.length = l.length) (ho : Obls P G F D ds l w0 t0 l 0 Bs)
    (hQ : ∀ w, G w0 w → Given F D w t0 (List.range l.length) fun t => Q .normal ⟨t, ds⟩ w) :
    ∀ (fuel : Nat) (x : Nat → Value) (listed : Array Bool) (t : Array Value) (w : World), Mid l G F D l.length w0 t0 x listed t w → listed.toList.count false = fuel → wpAny P .any l.toArray Q fuel listed ⟨t, ds⟩ w := by
  have hapart : ∀ i j, i < l.length → j < l.length → D.getD i 0 = D.getD j 0 → i = j := by
    intro i j hi hj he
    unfold slotsApart at hap
    have := List.all_eq_true.1 (List.all_eq_true.1 hap i (by simpa using hi)) j (by simpa using hj)
    rw [Bool.or_eq_true] at this
    rcases this with h | h
    · simpa using h
    · rw [he] at h; simp at h
  have hslot : ∀ i o, l[i]? = some o → o.dst = some (D.getD i 0) ∧ D.getD i 0 < t0.size ∧ (∀ j ∈ Bs.getD i [], j ∈ beforeOf o) ∧ (∀ j ∈ beforeOf o, j < i) ∧ (∀ cs b, o.op ≠ .select cs b) ∧
      ∀ d ∈ o.looksAt l.toArray, ∀ j oj, l[j]? = some oj → D.getD j 0 = d → j ∈ Bs.getD i [] ∨ i ∈ beforeOf oj := by
    intro i o h
    have hi : i < l.length := (List.getElem?_eq_some_iff.1 h).1
    unfold slotsOk at hok
    have h1 := List.all_eq_true.1 hok i (by simpa using hi)
    rw [h] at h1
    simp only [Bool.and_eq_true] at h1
    obtain ⟨⟨⟨⟨⟨a, b⟩, c⟩, d⟩, e⟩, f⟩ := h1
    refine ⟨by simpa using a, by simpa using b, fun j hj => by simpa using List.all_eq_true.1 c j hj, fun j hj => by simpa using List.all_eq_true.1 d j hj, fun cs b' he => ?_, fun d' hd' j oj hj hjd => ?_⟩
    · rw [he] at e; simp at e
    · have := List.all_eq_true.1 (List.all_eq_true.1 f d' hd') j (by simpa using (List.getElem?_eq_some_iff.1 hj).1)
      rw [hj] at this
      simp only [Bool.or_eq_true, bne_iff_ne, ne_eq, hjd, not_true_eq_false, false_or, List.contains_iff_mem] at this
      exact this
  have hfin : ∀ (x : Nat → Value) (listed : Array Bool) (t : Array Value) (w : World), Mid l G F D l.length w0 t0 x listed t w → (∀ j, j < l.length → listed.getD j true = true) → Q .normal ⟨t, ds⟩ w := by
    intro x listed t w hm hall
    have h1 := (hQ w hm.went).use x (fun j hj => (hm.here j (by simpa using hj) (hall j (by simpa using hj))).2)
    have h2 : (List.range l.length).foldl (fun t j => t.setIfInBounds (D.getD j 0) (x j)) t0 = t := by
      apply Array.ext_getElem?
      intro d
      by_cases hd : ∃ j, j < l.length ∧ D.getD j 0 = d
      · obtain ⟨j, hj, rfl⟩ := hd
        obtain ⟨o, hoj⟩ : ∃ o, l[j]? = some o := ⟨_, List.getElem?_eq_getElem hj⟩
        rw [fold_at x _ _ (by simpa using hj) (fun k hk e => hapart k j (by simpa using hk) hj e) (hslot j o hoj).2.1, (hm.here j hj (hall j hj)).1]
      · rw [fold_other x _ _ (fun j hj e => hd ⟨j, by simpa using hj, e⟩), hm.other d (fun j hj _ e => hd ⟨j, hj, e⟩)]
    rw [h2] at h1
    exact h1
  have hnil : ∀ (x : Nat → Value) (listed : Array Bool) (t : Array Value) (w : World), Mid l G F D l.length w0 t0 x listed t w → Region.ready .any l.toArray listed = [] → ∀ j, j < l.length → listed.getD j true = true := by
    intro x listed t w hm hr j
    induction j using Nat.strongRecOn with
    | _ j ih =>
      intro hj
      cases hu : listed.getD j true with
      | true => rfl
      | false =>
        obtain ⟨o, hoj⟩ : ∃ o, l[j]? = some o := ⟨_, List.getElem?_eq_getElem hj⟩
        obtain ⟨_, _, _, hlt, _, _⟩ := hslot j o hoj
        have := ready_of hoj hu (fun k hk => by
          have hkj := hlt k hk
          rw [getD_any false true (by rw [hm.size]; omega)]
          exact ih k hkj (by omega))
        rw [hr] at this
        cases this
  intro fuel
  induction fuel with
  | zero =>
    intro x listed t w hm hc
    have hall : ∀ j, j < l.length → listed.getD j true = true := by
      intro j hj
      have hjs : j < listed.size := by rw [hm.size]; exact hj
      have h0 : false ∉ listed.toList := List.count_eq_zero.1 hc
      cases hu : listed.getD j true with
      | true => rfl
      | false =>
        have : listed.toList[j] = false := by simpa [Array.getD, hjs] using hu
        exact absurd (this ▸ List.getElem_mem _) h0
    refine ⟨?_, hfin x listed t w hm hall⟩
    cases hr : Region.ready .any l.toArray listed with
    | nil => rfl
    | cons i r =>
      obtain ⟨o, hoi, hu, _⟩ := ready_mem (l := l) (listed := listed) (i := i) (by rw [hr]; simp)
      rw [hall i (List.getElem?_eq_some_iff.1 hoi).1] at hu
      cases hu
  | succ fuel ih =>
    intro x listed t w hm hc
    refine ⟨fun hr => hfin x listed t w hm (hnil x listed t w hm hr), fun i hi => ?_⟩
    obtain ⟨o, hoi, hu, hbk⟩ := ready_mem hi
    have hil : i < l.length := (List.getElem?_eq_some_iff.1 hoi).1
    have his : i < listed.size := by rw [hm.size]; exact hil
    obtain ⟨hdst, hlt, hbf, hbl, hsel, hlook⟩ := hslot i o hoi
    have hbk' : ∀ k ∈ beforeOf o, k < l.length ∧ listed.getD k true = true := fun k hk => by
      have := hbl k hk
      exact ⟨by omega, by rw [getD_any true false (by rw [hm.size]; omega)]; exact hbk k hk⟩
    have hob := ho.get (Bs := Bs) hB i o hoi
    rw [Nat.zero_add] at hob
    have h1 := (hob w hm.went).use x (fun j hj => (hm.here j (hbk' j (hbf j hj)).1 (hbk' j (hbf j hj)).2).2)
    have hsame : ∀ d ∈ o.looksAt l.toArray, t[d]? = ((Bs.getD i []).foldl (fun t j => t.setIfInBounds (D.getD j 0) (x j)) t0)[d]? := by
      intro d hd
      by_cases hx : ∃ j, j < l.length ∧ D.getD j 0 = d ∧ j ∈ Bs.getD i []
      · obtain ⟨j, hj, rfl, hjb⟩ := hx
        obtain ⟨oj, hoj⟩ : ∃ o, l[j]? = some o := ⟨_, List.getElem?_eq_getElem hj⟩
        rw [(hm.here j hj (hbk' j (hbf j hjb)).2).1, fold_at x _ _ hjb (fun k hk e => hapart k j (hbk' k (hbf k hk)).1 hj e) (hslot j oj hoj).2.1]
      · rw [fold_other x _ _ (fun j hj e => hx ⟨j, (hbk' j (hbf j hj)).1, e, hj⟩)]
        refine hm.other d fun j hj hjl e => ?_
        obtain ⟨oj, hoj⟩ : ∃ o, l[j]? = some o := ⟨_, List.getElem?_eq_getElem hj⟩
        rcases hlook d hd j oj hoj e with h | h
        · exact hx ⟨j, hj, e, h⟩
        · have := hm.shut j oj hoj hjl i h
          rw [hu] at this
          cases this
    -- what follows when the operation has yielded v
    have hnext : ∀ v w', G w w' → F i v w' → wpAny P .any l.toArray Q fuel (listed.setIfInBounds i true) ⟨t.setIfInBounds (D.getD i 0) v, ds⟩ w' := by
      intro v w' hg hf
      refine ih (fun j => if j = i then v else x j) _ _ _ ⟨by simp [hm.size], hG _ _ _ hm.went hg, by simp [hm.tsize], fun j hj hl => ?_, fun d hd => ?_, fun j oj hoj hl k hk => ?_⟩ (by have := count_set his hu; omega)
      · rw [getD_set his] at hl
        by_cases hji : i = j
        · subst hji
          rw [Array.getElem?_setIfInBounds_self, if_pos (by rw [hm.tsize]; exact hlt), if_pos rfl]
          exact ⟨rfl, hf⟩
        · rw [if_neg hji] at hl
          obtain ⟨h2, h3⟩ := hm.here j hj hl
          rw [Array.getElem?_setIfInBounds_ne (fun e => hji (hapart i j hil hj e)), if_neg (fun e => hji e.symm)]
          exact ⟨h2, hF j _ _ _ h3 hg⟩
      · have hdi : D.getD i 0 ≠ d := hd i hil (by rw [getD_set his, if_pos rfl])
        rw [Array.getElem?_setIfInBounds_ne hdi]
        exact hm.other d fun j hj hl => hd j hj (by rw [getD_set his]; split <;> simp [hl])
      · rw [getD_set his] at hl ⊢
        by_cases hki : i = k
        · rw [if_pos hki]
        · rw [if_neg hki]
          by_cases hji : i = j
          · subst hji
            obtain rfl : o = oj := by rw [hoi] at hoj; exact Option.some.inj hoj
            exact (hbk' k hk).2
          · rw [if_neg hji] at hl
            exact hm.shut j oj hoj hl k hk
    have hw := wanted_same (o := o) hsame
    unfold wpOp
    rw [show l.toArray[i]? = some o by simpa using hoi]
    show if Region.wanted o (yielded l.toArray t) = true then _ else _
    rw [hw]
    split
    · rename_i hwt
      replace h1 := h1.1 hwt
      refine .inl ?_
      exact wp_same (R := fun v w' => G w w' ∧ F i v w') hdst (by rw [fold_size]; exact hlt) (exec_same hsel hsame) h1 (fun v w' hr => hnext v w' hr.1 hr.2)
    · rename_i hwt
      replace h1 := h1.2 (by simpa using hwt)
      rw [hdst]
      exact hnext undef w (hR w) h1

theorem reg_free {Q : Exit → Act → World → Prop} {id : Nat} {w : World} (F : Nat → Value → World → Prop) (D : List Tmp) (Bs : List (List Nat)) (Ns : List Nat) (hm : P.follows .mixedOrders = true) (hR : ∀ a, G a a) (hG : ∀ a b c, G a b → G b c → G a c) (hF : ∀ i v w w', F i v w → G w w' → F i v w')
    (m : Nat) (hsz : t0.size = m) (hok : slotsOk l D Bs m = true) (hap : slotsApart D l.length = true) (hB : Bs.length = l.length) (hN : List.range l.length = Ns) (ho : Obls P G F D ds l w.drew t0 l 0 Bs)
    (hQ : ∀ w', G w.drew w' → Given F D w' t0 Ns fun t => Q .normal ⟨t, ds⟩ w') : (Code.region id l.toArray true).wp P Q ⟨t0, ds⟩ w := by
  subst hsz
  subst hN
  refine wp_region_any hm (reg_mid hR hG hF hok hap hB ho hQ _ (fun _ => undef) _ _ _ ⟨by simp, hR _, rfl, fun j hj hl => ?_, fun d _ => rfl, fun j oj hoj hl => ?_⟩ (by simp))
  · simp [Array.getD, hj] at hl
  · simp [Array.getD, (List.getElem?_eq_some_iff.1 hoj).1] at hl

/-- The usual relation: nothing that was there has turned. -/
def Kept (w w' : World) : Prop := Below w.heap.size w w'
theorem Kept.refl (w : World) : Kept w w := Below.refl _ _
theorem Kept.trans (a b c : World) (h : Kept a b) (k : Kept b c) : Kept a c := by
  unfold Kept at *
  exact h.trans (k.mono h.size)
def eqV (x : Value) : Value → World → Prop := fun v _ => v = x
def pickF (L : List (Value → World → Prop)) (i : Nat) (v : Value) (w : World) : Prop := L.getD i (fun _ _ => True) v w
def Stays (G : World → World → Prop) (p : Value → World → Prop) : Prop := ∀ v w w', p v w → G w w' → p v w'
def AllStay (G : World → World → Prop) : List (Value → World → Prop) → Prop
  | [] => True
  | p :: r => Stays G p ∧ AllStay G r
theorem eqV_stays (x : Value) : Stays G (eqV x) := fun _ _ _ h _ => h
theorem pick_stays : ∀ {L : List (Value → World → Prop)}, AllStay G L → ∀ i v w w', pickF L i v w → G w w' → pickF L i v w'
  | [], _, _, _, _, _, _, _ => by simp [pickF]
  | _ :: _, h, 0, v, w, w', hp, hg => h.1 v w w' hp hg
  | _ :: _, h, i + 1, v, w, w', hp, hg => pick_stays h.2 i v w w' hp hg
theorem turn_on {o : Oper} {i : Nat} {t : Array Value} {w : World} (hc : Region.wanted o (yielded l.toArray t) = true)
    (h : ∀ K : Act → World → Prop, (∀ a' w', (a'.defers = ds ∧ G w w' ∧ F i (a'.tmps.getD (D.getD i 0) undef) w') → K a' w') → Oper.wp P o ⟨t, ds⟩ w K (fun _ _ _ => False)) :
    Turn P G F D ds l w o i t := ⟨fun _ => h _ (fun _ _ h => h), fun h' => by rw [hc] at h'; cases h'⟩
theorem turn_off {o : Oper} {i : Nat} {t : Array Value} {w : World} (hc : Region.wanted o (yielded l.toArray t) = false) (h : F i undef w) : Turn P G F D ds l w o i t :=
  ⟨fun h' => absurd (hc.symm.trans h') (by simp), fun _ => h⟩
end
end Go.Proofs.Ytfoabnoolmeoiaa
