/- Regions that draw their order: one obligation an operation, whatever the order. No program in sight. Regions that draw their order, some of whose operations write: each operation has its own way to turn the world; what an operation needs and what it leaves need only bear the operations that can come between. No program in sight. A variable that holds a row of numbers of the call's own. No program in sight. A disk: what it is, what becomes of it; where it lies. -/
import Derived.Below
import Derived.ProofKit
import Derived.RegionTactic
import Derived.Test.YtlhpdkapddnbcaaJn1
namespace Go.Proofs.Ytlhpdkapddnbcaa
open Go.RowKit

/-- Which operations an operation waits for. -/
def beforeOf (o : Oper) : List Nat := (o.after.toList.filter (Region.binds .any)).map (·.on)

section
variable (P : Program) (G : World → World → Prop) (F : Nat → Value → World → Prop) (D : List Tmp) (ds : List Deferred)

/-- The values of some operations, each as it may be, laid in their slots. -/
def Given (w : World) : Array Value → List Nat → (Array Value → Prop) → Prop
  | t, [], k => k t
  | t, j :: r, k => ∀ v, F j v w → Given w (t.setIfInBounds (D.getD j 0) v) r k
/-- What is to be shown of one operation. -/
def Turn (l : List Oper) (w : World) (o : Oper) (i : Nat) (t : Array Value) : Prop :=
  (Region.wanted o (yielded l.toArray t) = true → Oper.wp P o ⟨t, ds⟩ w (fun a' w' => a'.defers = ds ∧ G w w' ∧ F i (a'.tmps.getD (D.getD i 0) undef) w') (fun _ _ _ => False)) ∧
  (Region.wanted o (yielded l.toArray t) = false → F i undef w)
def Obl (l : List Oper) (w0 : World) (t0 : Array Value) (o : Oper) (i : Nat) (B : List Nat) : Prop :=
  ∀ w, G w0 w → Given F D w t0 B fun t => Turn P G F D ds l w o i t
def Obls (l : List Oper) (w0 : World) (t0 : Array Value) : List Oper → Nat → List (List Nat) → Prop
  | o :: r, i, B :: Bs => Obl P G F D ds l w0 t0 o i B ∧ Obls l w0 t0 r (i + 1) Bs
  | _, _, _ => True
end

/-- The slots' facts that are read off the text alone. -/
def slotsOk (l : List Oper) (D : List Tmp) (Bs : List (List Nat)) (m : Nat) : Bool :=
  (List.range l.length).all fun i => match l[i]? with
    | none => true
    | some o => o.dst == some (D.getD i 0) && Nat.blt (D.getD i 0) m && (Bs.getD i []).all (fun j => (beforeOf o).contains j) && (beforeOf o).all (fun j => Nat.blt j i) &&
      (match o.op with | .select _ _ => false | _ => true) &&
      (o.looksAt l.toArray).all fun d => (List.range l.length).all fun j => D.getD j 0 != d || (Bs.getD i []).contains j || (match l[j]? with | some oj => (beforeOf oj).contains i | none => false)
def slotsApart (D : List Tmp) (n : Nat) : Bool := (List.range n).all fun i => (List.range n).all fun j => i == j || D.getD i 0 != D.getD j 0

section
variable {P : Program} {G : World → World → Prop} {F : Nat → Value → World → Prop} {D : List Tmp} {ds : List Deferred} {l : List Oper} {w0 : World} {t0 : Array Value}

theorem Obls.get {Bs : List (List Nat)} : ∀ {r : List Oper} {k : Nat} {B : List (List Nat)}, Obls P G F D ds l w0 t0 r k B → B.length = r.length → ∀ i o, r[i]? = some o → Obl P G F D ds l w0 t0 o (k + i) (B.getD i [])
  | [], _, _, _, _, i, o, h => by simp at h
  | o :: r, k, [], h, hl, _, _, _ => by simp at hl
  | o :: r, k, B :: Bs', h, hl, 0, o', h' => by
    simp at h'
    subst h'
    exact h.1
  | o :: r, k, B :: Bs', h, hl, i + 1, o', h' => by
    have := Obls.get (Bs := Bs) h.2 (by simpa using hl) i o' (by simpa using h')
    rw [show k + (i + 1) = k + 1 + i from by omega]
    simpa using this

theorem Given.use {w : World} {k : Array Value → Prop} (x : Nat → Value) : ∀ {B : List Nat} {t : Array Value}, Given F D w t B k → (∀ j ∈ B, F j (x j) w) → k (B.foldl (fun t j => t.setIfInBounds (D.getD j 0) (x j)) t)
  | [], _, h, _ => h
  | j :: r, t, h, hf => Given.use (B := r) (t := t.setIfInBounds (D.getD j 0) (x j)) x (h (x j) (hf j (by simp))) (fun i hi => hf i (by simp [hi]))

theorem fold_size (x : Nat → Value) : ∀ (B : List Nat) (t : Array Value), (B.foldl (fun t j => t.setIfInBounds (D.getD j 0) (x j)) t).size = t.size
  | [], _ => rfl
  | j :: r, t => by rw [List.foldl_cons, fold_size x r]; simp
theorem fold_other (x : Nat → Value) {d : Tmp} : ∀ (B : List Nat) (t : Array Value), (∀ j ∈ B, D.getD j 0 ≠ d) → (B.foldl (fun t j => t.setIfInBounds (D.getD j 0) (x j)) t)[d]? = t[d]?
  | [], _, _ => rfl
  | j :: r, t, h => by
    rw [List.foldl_cons, fold_other x r _ (fun i hi => h i (by simp [hi])), Array.getElem?_setIfInBounds_ne (h j (by simp))]
theorem fold_at (x : Nat → Value) {k : Nat} : ∀ (B : List Nat) (t : Array Value), k ∈ B → (∀ j ∈ B, D.getD j 0 = D.getD k 0 → j = k) → D.getD k 0 < t.size → (B.foldl (fun t j => t.setIfInBounds (D.getD j 0) (x j)) t)[D.getD k 0]? = some (x k)
  | [], _, h, _, _ => by cases h
  | j :: r, t, h, hu, hs => by
    rw [List.foldl_cons]
    by_cases hk : k ∈ r
    · exact fold_at x r _ hk (fun i hi => hu i (by simp [hi])) (by simpa using hs)
    · obtain rfl : k = j := by
        rcases List.mem_cons.1 h with h | h
        · exact h
        · exact absurd h hk
      rw [fold_other x r _ (fun i hi e => hk (hu i (by simp [hi]) e ▸ hi)), Array.getElem?_setIfInBounds_self]
      exact if_pos hs

theorem wanted_same {o : Oper} {ops : Array Oper} {t t' : Array Value} (h : ∀ d ∈ o.looksAt ops, t[d]? = t'[d]?) : Region.wanted o (yielded ops t) = Region.wanted o (yielded ops t') := by
  unfold Region.wanted
  cases hg : o.guard with
  | none => rfl
  | some gw =>
    obtain ⟨g, want⟩ := gw
    have hy : yielded ops t g = yielded ops t' g := by
      unfold yielded
      cases ht : (ops[g]?).bind (·.dst) with
      | none => rfl
      | some d =>
        have := h d (by simp [Oper.looksAt, hg, ht])
        simp only [Option.bind_some]
        rw [this]
    simp only [hy]
theorem exec_same {o : Oper} {ops : Array Oper} {t t' : Array Value} (hs : ∀ cs b, o.op ≠ .select cs b) (h : ∀ d ∈ o.looksAt ops, t[d]? = t'[d]?) : execOp (Act.mk t ds).eval o = execOp (Act.mk t' ds).eval o :=
  execOp_congr o hs fun x hx => by
    cases x with
    | tmp d =>
      have := h d (List.mem_append_left _ (List.mem_filterMap.2 ⟨.tmp d, by simpa using hx, rfl⟩))
      simp [Act.eval, Array.getD_eq_getD_getElem?, this]
    | _ => rfl

/-- What is shown over the slots that are looked at holds over all. -/
theorem wp_same {o : Oper} {t t' : Array Value} {w : World} {d : Tmp} {Q : Exit → Act → World → Prop} {K : Act → World → Prop} {R : Value → World → Prop} (hd : o.dst = some d) (hdt : d < t'.size)
    (he : execOp (Act.mk t ds).eval o = execOp (Act.mk t' ds).eval o)
    (h : Oper.wp P o ⟨t', ds⟩ w (fun a' w' => a'.defers = ds ∧ R (a'.tmps.getD d undef) w') (fun _ _ _ => False)) (hK : ∀ v w', R v w' → K ⟨t.setIfInBounds d v, ds⟩ w') :
    Oper.wp P o ⟨t, ds⟩ w K Q := by
  have hget : ∀ v : Value, (t'.setIfInBounds d v).getD d undef = v := fun v => by
    simp [Array.getD_eq_getD_getElem?, hdt]
  unfold Oper.wp at *
  rw [he]
  generalize (execOp (Act.mk t' ds).eval o).run P w = r at *
  have hput : ∀ v w', (((Act.mk t' ds).put o.dst v).defers = ds ∧ R (((Act.mk t' ds).put o.dst v).tmps.getD d undef) w') → K ((Act.mk t ds).put o.dst v) w' := by
    intro v w' ⟨_, hr⟩
    rw [hd] at hr ⊢
    simp only [Act.put, hget] at hr ⊢
    exact hK v w' hr
  cases r with
  | ok n w' =>
    cases n with
    | value v => exact hput v w' h
    | skip => exact hput undef w' h
    | enter f args => 
      refine Calls.mono h fun e w'' he' => ?_
      cases e with
      | returned v => exact hput v w'' he'
      | panicked c => exact he'.elim
      | outgrown => obtain ⟨_, _, hf⟩ := he'; exact hf.elim
    | row r args => exact Rows.mono h (fun v w'' hr => hput v w'' hr)
    | defer d' =>
      obtain ⟨hds, _⟩ := h
      rw [hd] at hds
      exact absurd hds (by simp [Act.put])
    | _ => exact h
  | halt x w' =>
    cases x with
    | panic v => exact h.elim
    | _ => exact h

/-- How far a region is: what is laid in the slots, by whichever order. -/
structure Mid (l : List Oper) (G : World → World → Prop) (F : Nat → Value → World → Prop) (D : List Tmp) (n : Nat) (w0 : World) (t0 : Array Value) (x : Nat → Value) (listed : Array Bool) (t : Array Value) (w : World) : Prop where
  size : listed.size = n
  went : G w0 w
  tsize : t.size = t0.size
  here : ∀ j, j < n → listed.getD j true = true → t[D.getD j 0]? = some (x j) ∧ F j (x j) w
  other : ∀ d, (∀ j, j < n → listed.getD j true = true → D.getD j 0 ≠ d) → t[d]? = t0[d]?
  shut : ∀ j o, l[j]? = some o → listed.getD j true = true → ∀ k ∈ beforeOf o, listed.getD k true = true

theorem count_set {listed : Array Bool} {i : Nat} (hi : i < listed.size) (h : listed.getD i true = false) : (listed.setIfInBounds i true).toList.count false + 1 = listed.toList.count false := by
  have h1 : listed.toList[i] = false := by simpa [Array.getD, hi] using h
  have hm : 0 < listed.toList.count false := List.count_pos_iff.2 (h1 ▸ List.getElem_mem _)
  rw [Array.toList_setIfInBounds, List.count_set (by simpa using hi)]
  rw [h1]
  show listed.toList.count false - 1 + 0 + 1 = listed.toList.count false
  omega

theorem getD_set {listed : Array Bool} {i j : Nat} (hi : i < listed.size) : (listed.setIfInBounds i true).getD j true = if i = j then true else listed.getD j true := by
  simp only [Array.getD_eq_getD_getElem?]
  by_cases h : i = j
  · subst h
    rw [Array.getElem?_setIfInBounds_self, if_pos hi, if_pos rfl]; rfl
  · rw [Array.getElem?_setIfInBounds_ne h, if_neg h]
theorem getD_any {listed : Array Bool} {j : Nat} (b c : Bool) (h : j < listed.size) : listed.getD j b = listed.getD j c := by simp [Array.getD, h]

/-- An operation whose turn has come waits for those alone that are listed. -/
theorem ready_mem {listed : Array Bool} {i : Nat} (h : i ∈ Region.ready .any l.toArray listed) : ∃ o, l[i]? = some o ∧ listed.getD i true = false ∧ ∀ k ∈ beforeOf o, listed.getD k false = true := by
  unfold Region.ready at h
  rw [List.mem_filter] at h
  obtain ⟨hi, hr⟩ := h
  rw [Bool.and_eq_true] at hr
  cases ho : l.toArray[i]? with
  | none => rw [ho] at hr; simp at hr
  | some o =>
    rw [ho] at hr
    refine ⟨o, by simpa using ho, by simpa using hr.1, fun k hk => ?_⟩
    unfold beforeOf at hk
    obtain ⟨e, he, rfl⟩ := List.mem_map.1 hk
    obtain ⟨he1, he2⟩ := List.mem_filter.1 he
    have := Array.all_eq_true_iff_forall_mem.1 (show o.after.all _ = true from hr.2) e (by simpa using he1)
    simpa [he2] using this
theorem ready_of {listed : Array Bool} {i : Nat} {o : Oper} (ho : l[i]? = some o) (hu : listed.getD i true = false) (hb : ∀ k ∈ beforeOf o, listed.getD k false = true) : i ∈ Region.ready .any l.toArray listed := by
  unfold Region.ready
  rw [List.mem_filter]
  have hi : i < l.length := (List.getElem?_eq_some_iff.1 ho).1
  refine ⟨by simpa using hi, ?_⟩
  rw [Bool.and_eq_true]
  refine ⟨by simp [hu], ?_⟩
  rw [show l.toArray[i]? = some o by simpa using ho]
  show (o.after.all _) = true
  refine Array.all_eq_true_iff_forall_mem.2 fun e he => ?_
  by_cases h : Region.binds .any e = true
  · have := hb e.on (List.mem_map.2 ⟨e, List.mem_filter.2 ⟨by simpa using he, h⟩, rfl⟩)
    simp [this]
  · simp [h]

/-- A REGION THAT DRAWS ITS ORDER, BY ONE OBLIGATION AN OPERATION. -/
theorem reg_mid {Q : Exit → Act → World → Prop} {Bs : List (List Nat)} (hR : ∀ a, G a a) (hG : ∀ a b c, G a b → G b c → G a c) (hF : ∀ i v w w', F i v w → G w w' → F i v w')
    (hok : slotsOk l D Bs t0.size = true) (hap : slotsApart D l.length = true) (hB : Bs.length = l.length) (ho : Obls P G F D ds l w0 t0 l 0 Bs)
    (hQ : ∀ w, G w0 w → Given F D w t0 (List.range l.length) fun t => Q .normal ⟨t, ds⟩ w) :
    ∀ (fuel : Nat) (x : Nat → Value) (listed : Array Bool) (t : Array Value) (w : World), Mid l G F D l.length w0 t0 x listed t w → listed.toList.count false = fuel → wpAny P .any l.toArray Q fuel listed ⟨t, ds⟩ w := by
  have hapart : ∀ i j, i < l.length → j < l.length → D.getD i 0 = D.getD j 0 → i = j := by
    intro i j hi hj he
    unfold slotsApart at hap
    have := List.all_eq_true.1 (List.all_eq_true.1 hap i (by simpa using hi)) j (by simpa using hj)
    rw [Bool.or_eq_true] at this
    rcases this with h | h
    · simpa using h
    · rw [he] at h; simp at h
  have hslot : ∀ i o, l[i]? = some o → o.dst = some (D.getD i 0) ∧ D.getD i 0 < t0.size ∧ (∀ j ∈ Bs.getD i [], j ∈ beforeOf o) ∧ (∀ j ∈ beforeOf o, j < i) ∧ (∀ cs b, o.op ≠ .select cs b) ∧
      ∀ d ∈ o.looksAt l.toArray, ∀ j oj, l[j]? = some oj → D.getD j 0 = d → j ∈ Bs.getD i [] ∨ i ∈ beforeOf oj := by
    intro i o h
    have hi : i < l.length := (List.getElem?_eq_some_iff.1 h).1
    unfold slotsOk at hok
    have h1 := List.all_eq_true.1 hok i (by simpa using hi)
    rw [h] at h1
    simp only [Bool.and_eq_true] at h1
    obtain ⟨⟨⟨⟨⟨a, b⟩, c⟩, d⟩, e⟩, f⟩ := h1
    refine ⟨by simpa using a, by simpa using b, fun j hj => by simpa using List.all_eq_true.1 c j hj, fun j hj => by simpa using List.all_eq_true.1 d j hj, fun cs b' he => ?_, fun d' hd' j oj hj hjd => ?_⟩
    · rw [he] at e; simp at e
    · have := List.all_eq_true.1 (List.all_eq_true.1 f d' hd') j (by simpa using (List.getElem?_eq_some_iff.1 hj).1)
      rw [hj] at this
      simp only [Bool.or_eq_true, bne_iff_ne, ne_eq, hjd, not_true_eq_false, false_or, List.contains_iff_mem] at this
      exact this
  have hfin : ∀ (x : Nat → Value) (listed : Array Bool) (t : Array Value) (w : World), Mid l G F D l.length w0 t0 x listed t w → (∀ j, j < l.length → listed.getD j true = true) → Q .normal ⟨t, ds⟩ w := by
    intro x listed t w hm hall
    have h1 := (hQ w hm.went).use x (fun j hj => (hm.here j (by simpa using hj) (hall j (by simpa using hj))).2)
    have h2 : (List.range l.length).foldl (fun t j => t.setIfInBounds (D.getD j 0) (x j)) t0 = t := by
      apply Array.ext_getElem?
      intro d
      by_cases hd : ∃ j, j < l.length ∧ D.getD j 0 = d
      · obtain ⟨j, hj, rfl⟩ := hd
        obtain ⟨o, hoj⟩ : ∃ o, l[j]? = some o := ⟨_, List.getElem?_eq_getElem hj⟩
        rw [fold_at x _ _ (by simpa using hj) (fun k hk e => hapart k j (by simpa using hk) hj e) (hslot j o hoj).2.1, (hm.here j hj (hall j hj)).1]
      · rw [fold_other x _ _ (fun j hj e => hd ⟨j, by simpa using hj, e⟩), hm.other d (fun j hj _ e => hd ⟨j, hj, e⟩)]
    rw [h2] at h1
    exact h1
  have hnil : ∀ (x : Nat → Value) (listed : Array Bool) (t : Array Value) (w : World), Mid l G F D l.length w0 t0 x listed t w → Region.ready .any l.toArray listed = [] → ∀ j, j < l.length → listed.getD j true = true := by
    intro x listed t w hm hr j
    induction j using Nat.strongRecOn with
    | _ j ih =>
      intro hj
      cases hu : listed.getD j true with
      | true => rfl
      | false =>
        obtain ⟨o, hoj⟩ : ∃ o, l[j]? = some o := ⟨_, List.getElem?_eq_getElem hj⟩
        obtain ⟨_, _, _, hlt, _, _⟩ := hslot j o hoj
        have := ready_of hoj hu (fun k hk => by
          have hkj := hlt k hk
          rw [getD_any false true (by rw [hm.size]; omega)]
          exact ih k hkj (by omega))
        rw [hr] at this
        cases this
  intro fuel
  induction fuel with
  | zero =>
    intro x listed t w hm hc
    have hall : ∀ j, j < l.length → listed.getD j true = true := by
      intro j hj
      have hjs : j < listed.size := by rw [hm.size]; exact hj
      have h0 : false ∉ listed.toList := List.count_eq_zero.1 hc
      cases hu : listed.getD j true with
      | true => rfl
      | false =>
        have : listed.toList[j] = false := by simpa [Array.getD, hjs] using hu
        exact absurd (this ▸ List.getElem_mem _) h0
    refine ⟨?_, hfin x listed t w hm hall⟩
    cases hr : Region.ready .any l.toArray listed with
    | nil => rfl
    | cons i r =>
      obtain ⟨o, hoi, hu, _⟩ := ready_mem (l := l) (listed := listed) (i := i) (by rw [hr]; simp)
      rw [hall i (List.getElem?_eq_some_iff.1 hoi).1] at hu
      cases hu
  | succ fuel ih =>
    intro x listed t w hm hc
    refine ⟨fun hr => hfin x listed t w hm (hnil x listed t w hm hr), fun i hi => ?_⟩
    obtain ⟨o, hoi, hu, hbk⟩ := ready_mem hi
    have hil : i < l.length := (List.getElem?_eq_some_iff.1 hoi).1
    have his : i < listed.size := by rw [hm.size]; exact hil
    obtain ⟨hdst, hlt, hbf, hbl, hsel, hlook⟩ := hslot i o hoi
    have hbk' : ∀ k ∈ beforeOf o, k < l.length ∧ listed.getD k true = true := fun k hk => by
      have := hbl k hk
      exact ⟨by omega, by rw [getD_any true false (by rw [hm.size]; omega)]; exact hbk k hk⟩
    have hob := ho.get (Bs := Bs) hB i o hoi
    rw [Nat.zero_add] at hob
    have h1 := (hob w hm.went).use x (fun j hj => (hm.here j (hbk' j (hbf j hj)).1 (hbk' j (hbf j hj)).2).2)
    have hsame : ∀ d ∈ o.looksAt l.toArray, t[d]? = ((Bs.getD i []).foldl (fun t j => t.setIfInBounds (D.getD j 0) (x j)) t0)[d]? := by
      intro d hd
      by_cases hx : ∃ j, j < l.length ∧ D.getD j 0 = d ∧ j ∈ Bs.getD i []
      · obtain ⟨j, hj, rfl, hjb⟩ := hx
        obtain ⟨oj, hoj⟩ : ∃ o, l[j]? = some o := ⟨_, List.getElem?_eq_getElem hj⟩
        rw [(hm.here j hj (hbk' j (hbf j hjb)).2).1, fold_at x _ _ hjb (fun k hk e => hapart k j (hbk' k (hbf k hk)).1 hj e) (hslot j oj hoj).2.1]
      · rw [fold_other x _ _ (fun j hj e => hx ⟨j, (hbk' j (hbf j hj)).1, e, hj⟩)]
        refine hm.other d fun j hj hjl e => ?_
        obtain ⟨oj, hoj⟩ : ∃ o, l[j]? = some o := ⟨_, List.getElem?_eq_getElem hj⟩
        rcases hlook d hd j oj hoj e with h | h
        · exact hx ⟨j, hj, e, h⟩
        · have := hm.shut j oj hoj hjl i h
          rw [hu] at this
          cases this
    -- what follows when the operation has yielded v
    have hnext : ∀ v w', G w w' → F i v w' → wpAny P .any l.toArray Q fuel (listed.setIfInBounds i true) ⟨t.setIfInBounds (D.getD i 0) v, ds⟩ w' := by
      intro v w' hg hf
      refine ih (fun j => if j = i then v else x j) _ _ _ ⟨by simp [hm.size], hG _ _ _ hm.went hg, by simp [hm.tsize], fun j hj hl => ?_, fun d hd => ?_, fun j oj hoj hl k hk => ?_⟩ (by have := count_set his hu; omega)
      · rw [getD_set his] at hl
        by_cases hji : i = j
        · subst hji
          rw [Array.getElem?_setIfInBounds_self, if_pos (by rw [hm.tsize]; exact hlt), if_pos rfl]
          exact ⟨rfl, hf⟩
        · rw [if_neg hji] at hl
          obtain ⟨h2, h3⟩ := hm.here j hj hl
          rw [Array.getElem?_setIfInBounds_ne (fun e => hji (hapart i j hil hj e)), if_neg (fun e => hji e.symm)]
          exact ⟨h2, hF j _ _ _ h3 hg⟩
      · have hdi : D.getD i 0 ≠ d := hd i hil (by rw [getD_set his, if_pos rfl])
        rw [Array.getElem?_setIfInBounds_ne hdi]
        exact hm.other d fun j hj hl => hd j hj (by rw [getD_set his]; split <;> simp [hl])
      · rw [getD_set his] at hl ⊢
        by_cases hki : i = k
        · rw [if_pos hki]
        · rw [if_neg hki]
          by_cases hji : i = j
          · subst hji
            obtain rfl : o = oj := by rw [hoi] at hoj; exact Option.some.inj hoj
            exact (hbk' k hk).2
          · rw [if_neg hji] at hl
            exact hm.shut j oj hoj hl k hk
    have hw := wanted_same (o := o) hsame
    unfold wpOp
    rw [show l.toArray[i]? = some o by simpa using hoi]
    show if Region.wanted o (yielded l.toArray t) = true then _ else _
    rw [hw]
    split
    · rename_i hwt
      replace h1 := h1.1 hwt
      refine .inl ?_
      exact wp_same (R := fun v w' => G w w' ∧ F i v w') hdst (by rw [fold_size]; exact hlt) (exec_same hsel hsame) h1 (fun v w' hr => hnext v w' hr.1 hr.2)
    · rename_i hwt
      replace h1 := h1.2 (by simpa using hwt)
      rw [hdst]
      exact hnext undef w (hR w) h1

theorem reg_free {Q : Exit → Act → World → Prop} {id : Nat} {w : World} (F : Nat → Value → World → Prop) (D : List Tmp) (Bs : List (List Nat)) (Ns : List Nat) (hm : P.follows .mixedOrders = true) (hR : ∀ a, G a a) (hG : ∀ a b c, G a b → G b c → G a c) (hF : ∀ i v w w', F i v w → G w w' → F i v w')
    (m : Nat) (hsz : t0.size = m) (hok : slotsOk l D Bs m = true) (hap : slotsApart D l.length = true) (hB : Bs.length = l.length) (hN : List.range l.length = Ns) (ho : Obls P G F D ds l w.drew t0 l 0 Bs)
    (hQ : ∀ w', G w.drew w' → Given F D w' t0 Ns fun t => Q .normal ⟨t, ds⟩ w') : (Code.region id l.toArray true).wp P Q ⟨t0, ds⟩ w := by
  subst hsz
  subst hN
  refine wp_region_any hm (reg_mid hR hG hF hok hap hB ho hQ _ (fun _ => undef) _ _ _ ⟨by simp, hR _, rfl, fun j hj hl => ?_, fun d _ => rfl, fun j oj hoj hl => ?_⟩ (by simp))
  · simp [Array.getD, hj] at hl
  · simp [Array.getD, (List.getElem?_eq_some_iff.1 hoj).1] at hl

/-- The usual relation: nothing that was there has turned. -/
def Kept (w w' : World) : Prop := Below w.heap.size w w'
theorem Kept.refl (w : World) : Kept w w := Below.refl _ _
theorem Kept.trans (a b c : World) (h : Kept a b) (k : Kept b c) : Kept a c := by
  unfold Kept at *
  exact h.trans (k.mono h.size)
def eqV (x : Value) : Value → World → Prop := fun v _ => v = x
def pickF (L : List (Value → World → Prop)) (i : Nat) (v : Value) (w : World) : Prop := L.getD i (fun _ _ => True) v w
def Stays (G : World → World → Prop) (p : Value → World → Prop) : Prop := ∀ v w w', p v w → G w w' → p v w'
def AllStay (G : World → World → Prop) : List (Value → World → Prop) → Prop
  | [] => True
  | p :: r => Stays G p ∧ AllStay G r
theorem eqV_stays (x : Value) : Stays G (eqV x) := fun _ _ _ h _ => h
theorem pick_stays : ∀ {L : List (Value → World → Prop)}, AllStay G L → ∀ i v w w', pickF L i v w → G w w' → pickF L i v w'
  | [], _, _, _, _, _, _, _ => by simp [pickF]
  | _ :: _, h, 0, v, w, w', hp, hg => h.1 v w w' hp hg
  | _ :: _, h, i + 1, v, w, w', hp, hg => pick_stays h.2 i v w w' hp hg
theorem turn_on {o : Oper} {i : Nat} {t : Array Value} {w : World} (hc : Region.wanted o (yielded l.toArray t) = true)
    (h : ∀ K : Act → World → Prop, (∀ a' w', (a'.defers = ds ∧ G w w' ∧ F i (a'.tmps.getD (D.getD i 0) undef) w') → K a' w') → Oper.wp P o ⟨t, ds⟩ w K (fun _ _ _ => False)) :
    Turn P G F D ds l w o i t := ⟨fun _ => h _ (fun _ _ h => h), fun h' => by rw [hc] at h'; cases h'⟩
theorem turn_off {o : Oper} {i : Nat} {t : Array Value} {w : World} (hc : Region.wanted o (yielded l.toArray t) = false) (h : F i undef w) : Turn P G F D ds l w o i t :=
  ⟨fun h' => absurd (hc.symm.trans h') (by simp), fun _ => h⟩
end
end Go.Proofs.Ytlhpdkapddnbcaa

namespace Go.Proofs.Ytlhpdkapddnbcaa
open Go.RowKit
/-- Operation i comes behind operation j (a walk along the edges of so many steps). -/
def waits (l : List Oper) : Nat → Nat → Nat → Bool
  | 0, _, _ => false
  | f + 1, i, j => match l[i]? with
    | none => false
    | some o => (beforeOf o).any fun k => k == j || waits l f k j
section
variable (P : Program) (Gs : Nat → World → World → Prop) (I : Nat → World → Prop) (F : Nat → Value → World → Prop) (D : List Tmp) (ds : List Deferred)
def Turn2 (l : List Oper) (w : World) (o : Oper) (i : Nat) (t : Array Value) : Prop :=
  (Region.wanted o (yielded l.toArray t) = true → Oper.wp P o ⟨t, ds⟩ w (fun a' w' => a'.defers = ds ∧ Gs i w w' ∧ F i (a'.tmps.getD (D.getD i 0) undef) w') (fun _ _ _ => False)) ∧
  (Region.wanted o (yielded l.toArray t) = false → Gs i w w ∧ F i undef w)
def Obl2 (l : List Oper) (t0 : Array Value) (o : Oper) (i : Nat) (B : List Nat) : Prop :=
  ∀ w, I i w → Given F D w t0 B fun t => Turn2 P Gs F D ds l w o i t
def Obls2 (l : List Oper) (t0 : Array Value) : List Oper → Nat → List (List Nat) → Prop
  | o :: r, i, B :: Bs => Obl2 P Gs I F D ds l t0 o i B ∧ Obls2 l t0 r (i + 1) Bs
  | _, _, _ => True
end
def slotsOk2 (l : List Oper) (D : List Tmp) (Bs : List (List Nat)) (m : Nat) : Bool :=
  (List.range l.length).all fun i => match l[i]? with
    | none => true
    | some o => (match o.dst with | some d => d == D.getD i 0 && Nat.blt (D.getD i 0) m | none => Nat.ble m (D.getD i 0)) && (Bs.getD i []).all (fun j => (beforeOf o).contains j) && (beforeOf o).all (fun j => Nat.blt j i) &&
      (match o.op with | .select _ _ => false | _ => true) &&
      (o.looksAt l.toArray).all fun d => (List.range l.length).all fun j => D.getD j 0 != d || (Bs.getD i []).contains j || (match l[j]? with | some oj => (beforeOf oj).contains i | none => false)
section
variable {P : Program} {Gs : Nat → World → World → Prop} {I : Nat → World → Prop} {F : Nat → Value → World → Prop} {D : List Tmp} {ds : List Deferred} {l : List Oper} {t0 : Array Value}
theorem Obls2.get {Bs : List (List Nat)} : ∀ {r : List Oper} {k : Nat} {B : List (List Nat)}, Obls2 P Gs I F D ds l t0 r k B → B.length = r.length → ∀ i o, r[i]? = some o → Obl2 P Gs I F D ds l t0 o (k + i) (B.getD i [])
  | [], _, _, _, _, i, o, h => by simp at h
  | o :: r, k, [], h, hl, _, _, _ => by simp at hl
  | o :: r, k, B :: Bs', h, hl, 0, o', h' => by
    simp at h'
    subst h'
    exact h.1
  | o :: r, k, B :: Bs', h, hl, i + 1, o', h' => by
    have := Obls2.get (Bs := Bs) h.2 (by simpa using hl) i o' (by simpa using h')
    rw [show k + (i + 1) = k + 1 + i from by omega]
    simpa using this
theorem wp_same2 {o : Oper} {t t' : Array Value} {w : World} {d : Tmp} {Q : Exit → Act → World → Prop} {K : Act → World → Prop} {R : Value → World → Prop} (hsz : t.size = t'.size) (hd : (o.dst = some d ∧ d < t'.size) ∨ (o.dst = none ∧ t'.size ≤ d))
    (he : execOp (Act.mk t ds).eval o = execOp (Act.mk t' ds).eval o)
    (h : Oper.wp P o ⟨t', ds⟩ w (fun a' w' => a'.defers = ds ∧ R (a'.tmps.getD d undef) w') (fun _ _ _ => False)) (hK : ∀ v w', R v w' → K ⟨t.setIfInBounds d v, ds⟩ w') :
    Oper.wp P o ⟨t, ds⟩ w K Q := by
  rcases hd with ⟨hd, hdt⟩ | ⟨hd, hdt⟩
  · exact wp_same hd hdt he h hK
  · have hno : ∀ v : Value, t.setIfInBounds d v = t := fun v => Array.setIfInBounds_eq_of_size_le (by omega)
    have hget : t'.getD d undef = undef := by simp [Array.getD_eq_getD_getElem?, hdt]
    unfold Oper.wp at *
    rw [he]
    generalize (execOp (Act.mk t' ds).eval o).run P w = r at *
    have hput : ∀ v w', (((Act.mk t' ds).put o.dst v).defers = ds ∧ R (((Act.mk t' ds).put o.dst v).tmps.getD d undef) w') → K ((Act.mk t ds).put o.dst v) w' := by
      intro v w' ⟨_, hr⟩
      rw [hd] at hr ⊢
      simp only [Act.put, hget] at hr ⊢
      have := hK undef w' hr
      rwa [hno] at this
    cases r with
    | ok n w' =>
      cases n with
      | value v => exact hput v w' h
      | skip => exact hput undef w' h
      | enter f args =>
        refine Calls.mono h fun e w'' he' => ?_
        cases e with
        | returned v => exact hput v w'' he'
        | panicked c => exact he'.elim
        | outgrown => obtain ⟨_, _, hf⟩ := he'; exact hf.elim
      | row r args => exact Rows.mono h (fun v w'' hr => hput v w'' hr)
      | defer d' =>
        obtain ⟨hds, _⟩ := h
        rw [hd] at hds
        exact absurd hds (by simp [Act.put])
      | _ => exact h
    | halt x w' =>
      cases x with
      | panic v => exact h.elim
      | _ => exact h
structure Mid2 (l : List Oper) (I : Nat → World → Prop) (F : Nat → Value → World → Prop) (D : List Tmp) (n : Nat) (t0 : Array Value) (x : Nat → Value) (listed : Array Bool) (t : Array Value) (w : World) : Prop where
  size : listed.size = n
  tsize : t.size = t0.size
  here : ∀ j, j < n → listed.getD j true = true → (D.getD j 0 < t0.size → t[D.getD j 0]? = some (x j)) ∧ F j (x j) w
  wait : ∀ j, j < n → listed.getD j true = false → I j w
  fin : I n w
  other : ∀ d, (∀ j, j < n → listed.getD j true = true → D.getD j 0 ≠ d) → t[d]? = t0[d]?
  shut : ∀ j o, l[j]? = some o → listed.getD j true = true → ∀ k ∈ beforeOf o, listed.getD k true = true
theorem waits_listed {listed : Array Bool} (shut : ∀ j o, l[j]? = some o → listed.getD j true = true → ∀ k ∈ beforeOf o, listed.getD k true = true) :
    ∀ (f i j : Nat), waits l f i j = true → listed.getD i true = true → listed.getD j true = true
  | 0, _, _, h, _ => by simp [waits] at h
  | f + 1, i, j, h, hi => by
    unfold waits at h
    split at h
    · cases h
    · rename_i o ho
      obtain ⟨k, hk, hk2⟩ := List.any_eq_true.1 h
      have hlk := shut i o ho hi k hk
      rw [Bool.or_eq_true] at hk2
      rcases hk2 with e | e
      · rw [← (beq_iff_eq.1 e)]; exact hlk
      · exact waits_listed shut f k j e hlk
theorem reg_mid2 {Q : Exit → Act → World → Prop} {Bs : List (List Nat)} (f : Nat)
    (hF : ∀ i j v w w', i < l.length → j < l.length → j ≠ i → waits l f i j = false → F i v w → Gs j w w' → F i v w')
    (hI : ∀ i j w w', i ≤ l.length → j < l.length → j ≠ i → waits l f j i = false → I i w → Gs j w w' → I i w')
    (hok : slotsOk2 l D Bs t0.size = true) (hap : slotsApart D l.length = true) (hB : Bs.length = l.length) (ho : Obls2 P Gs I F D ds l t0 l 0 Bs)
    (hQ : ∀ w, I l.length w → Given F D w t0 (List.range l.length) fun t => Q .normal ⟨t, ds⟩ w) :
    ∀ (fuel : Nat) (x : Nat → Value) (listed : Array Bool) (t : Array Value) (w : World), Mid2 l I F D l.length t0 x listed t w → listed.toList.count false = fuel → wpAny P .any l.toArray Q fuel listed ⟨t, ds⟩ w := by
  have hapart : ∀ i j, i < l.length → j < l.length → D.getD i 0 = D.getD j 0 → i = j := by
    intro i j hi hj he
    unfold slotsApart at hap
    have := List.all_eq_true.1 (List.all_eq_true.1 hap i (by simpa using hi)) j (by simpa using hj)
    rw [Bool.or_eq_true] at this
    rcases this with h | h
    · simpa using h
    · rw [he] at h; simp at h
  have hslot : ∀ i o, l[i]? = some o → ((o.dst = some (D.getD i 0) ∧ D.getD i 0 < t0.size) ∨ (o.dst = none ∧ t0.size ≤ D.getD i 0)) ∧ (∀ j ∈ Bs.getD i [], j ∈ beforeOf o) ∧ (∀ j ∈ beforeOf o, j < i) ∧ (∀ cs b, o.op ≠ .select cs b) ∧
      ∀ d ∈ o.looksAt l.toArray, ∀ j oj, l[j]? = some oj → D.getD j 0 = d → j ∈ Bs.getD i [] ∨ i ∈ beforeOf oj := by
    intro i o h
    have hi : i < l.length := (List.getElem?_eq_some_iff.1 h).1
    unfold slotsOk2 at hok
    have h1 := List.all_eq_true.1 hok i (by simpa using hi)
    rw [h] at h1
    simp only [Bool.and_eq_true] at h1
    obtain ⟨⟨⟨⟨a, c⟩, d⟩, e⟩, g⟩ := h1
    refine ⟨?_, fun j hj => by simpa using List.all_eq_true.1 c j hj, fun j hj => by simpa using List.all_eq_true.1 d j hj, fun cs b' he => ?_, fun d' hd' j oj hj hjd => ?_⟩
    · cases hdst : o.dst with
      | none => rw [hdst] at a; exact .inr ⟨rfl, by simpa using a⟩
      | some d => rw [hdst, Bool.and_eq_true, beq_iff_eq] at a; exact .inl ⟨by rw [a.1], by simpa using a.2⟩
    · rw [he] at e; simp at e
    · have := List.all_eq_true.1 (List.all_eq_true.1 g d' hd') j (by simpa using (List.getElem?_eq_some_iff.1 hj).1)
      rw [hj] at this
      simp only [Bool.or_eq_true, bne_iff_ne, ne_eq, hjd, not_true_eq_false, false_or, List.contains_iff_mem] at this
      exact this
  have hfin : ∀ (x : Nat → Value) (listed : Array Bool) (t : Array Value) (w : World), Mid2 l I F D l.length t0 x listed t w → (∀ j, j < l.length → listed.getD j true = true) → Q .normal ⟨t, ds⟩ w := by
    intro x listed t w hm hall
    have h1 := (hQ w hm.fin).use x (fun j hj => (hm.here j (by simpa using hj) (hall j (by simpa using hj))).2)
    have h2 : (List.range l.length).foldl (fun t j => t.setIfInBounds (D.getD j 0) (x j)) t0 = t := by
      apply Array.ext_getElem?
      intro d
      by_cases hd : ∃ j, j < l.length ∧ D.getD j 0 = d
      · obtain ⟨j, hj, rfl⟩ := hd
        by_cases hin : D.getD j 0 < t0.size
        · rw [fold_at x _ _ (by simpa using hj) (fun k hk e => hapart k j (by simpa using hk) hj e) hin, (hm.here j hj (hall j hj)).1 hin]
        · have hin' : t0.size ≤ D.getD j 0 := Nat.le_of_not_lt hin
          have e1 : ((List.range l.length).foldl (fun t j => t.setIfInBounds (D.getD j 0) (x j)) t0).size ≤ D.getD j 0 := by rw [fold_size]; omega
          have e2 : t.size ≤ D.getD j 0 := by rw [hm.tsize]; omega
          rw [Array.getElem?_eq_none e1, Array.getElem?_eq_none e2]
      · rw [fold_other x _ _ (fun j hj e => hd ⟨j, by simpa using hj, e⟩), hm.other d (fun j hj _ e => hd ⟨j, hj, e⟩)]
    rw [h2] at h1
    exact h1
  have hnil : ∀ (x : Nat → Value) (listed : Array Bool) (t : Array Value) (w : World), Mid2 l I F D l.length t0 x listed t w → Region.ready .any l.toArray listed = [] → ∀ j, j < l.length → listed.getD j true = true := by
    intro x listed t w hm hr j
    induction j using Nat.strongRecOn with
    | _ j ih =>
      intro hj
      cases hu : listed.getD j true with
      | true => rfl
      | false =>
        obtain ⟨o, hoj⟩ : ∃ o, l[j]? = some o := ⟨_, List.getElem?_eq_getElem hj⟩
        obtain ⟨_, _, hlt, _, _⟩ := hslot j o hoj
        have := ready_of hoj hu (fun k hk => by
          have hkj := hlt k hk
          rw [getD_any false true (by rw [hm.size]; omega)]
          exact ih k hkj (by omega))
        rw [hr] at this
        cases this
  intro fuel
  induction fuel with
  | zero =>
    intro x listed t w hm hc
    have hall : ∀ j, j < l.length → listed.getD j true = true := by
      intro j hj
      have hjs : j < listed.size := by rw [hm.size]; exact hj
      have h0 : false ∉ listed.toList := List.count_eq_zero.1 hc
      cases hu : listed.getD j true with
      | true => rfl
      | false =>
        have : listed.toList[j] = false := by simpa [Array.getD, hjs] using hu
        exact absurd (this ▸ List.getElem_mem _) h0
    refine ⟨?_, hfin x listed t w hm hall⟩
    cases hr : Region.ready .any l.toArray listed with
    | nil => rfl
    | cons i r =>
      obtain ⟨o, hoi, hu, _⟩ := ready_mem (l := l) (listed := listed) (i := i) (by rw [hr]; simp)
      rw [hall i (List.getElem?_eq_some_iff.1 hoi).1] at hu
      cases hu
  | succ fuel ih =>
    intro x listed t w hm hc
    refine ⟨fun hr => hfin x listed t w hm (hnil x listed t w hm hr), fun i hi => ?_⟩
    obtain ⟨o, hoi, hu, hbk⟩ := ready_mem hi
    have hil : i < l.length := (List.getElem?_eq_some_iff.1 hoi).1
    have his : i < listed.size := by rw [hm.size]; exact hil
    obtain ⟨hdst, hbf, hbl, hsel, hlook⟩ := hslot i o hoi
    have hbk' : ∀ k ∈ beforeOf o, k < l.length ∧ listed.getD k true = true := fun k hk => by
      have := hbl k hk
      exact ⟨by omega, by rw [getD_any true false (by rw [hm.size]; omega)]; exact hbk k hk⟩
    have hob := ho.get (Bs := Bs) hB i o hoi
    rw [Nat.zero_add] at hob
    have h1 := (hob w (hm.wait i hil hu)).use x (fun j hj => (hm.here j (hbk' j (hbf j hj)).1 (hbk' j (hbf j hj)).2).2)
    have hsame : ∀ d ∈ o.looksAt l.toArray, t[d]? = ((Bs.getD i []).foldl (fun t j => t.setIfInBounds (D.getD j 0) (x j)) t0)[d]? := by
      intro d hd
      by_cases hx : ∃ j, j < l.length ∧ D.getD j 0 = d ∧ j ∈ Bs.getD i []
      · obtain ⟨j, hj, rfl, hjb⟩ := hx
        by_cases hin : D.getD j 0 < t0.size
        · rw [(hm.here j hj (hbk' j (hbf j hjb)).2).1 hin, fold_at x _ _ hjb (fun k hk e => hapart k j (hbk' k (hbf k hk)).1 hj e) hin]
        · have hin' : t0.size ≤ D.getD j 0 := Nat.le_of_not_lt hin
          have e1 : ((Bs.getD i []).foldl (fun t j => t.setIfInBounds (D.getD j 0) (x j)) t0).size ≤ D.getD j 0 := by rw [fold_size]; omega
          have e2 : t.size ≤ D.getD j 0 := by rw [hm.tsize]; omega
          rw [Array.getElem?_eq_none e1, Array.getElem?_eq_none e2]
      · rw [fold_other x _ _ (fun j hj e => hx ⟨j, (hbk' j (hbf j hj)).1, e, hj⟩)]
        refine hm.other d fun j hj hjl e => ?_
        obtain ⟨oj, hoj⟩ : ∃ o, l[j]? = some o := ⟨_, List.getElem?_eq_getElem hj⟩
        rcases hlook d hd j oj hoj e with h | h
        · exact hx ⟨j, hj, e, h⟩
        · have := hm.shut j oj hoj hjl i h
          rw [hu] at this
          cases this
    have hnext : ∀ v w', Gs i w w' → F i v w' → wpAny P .any l.toArray Q fuel (listed.setIfInBounds i true) ⟨t.setIfInBounds (D.getD i 0) v, ds⟩ w' := by
      intro v w' hg hf
      refine ih (fun j => if j = i then v else x j) _ _ _ ⟨by simp [hm.size], by simp [hm.tsize], fun j hj hl => ?_, fun j hj hl => ?_, ?_, fun d hd => ?_, fun j oj hoj hl k hk => ?_⟩ (by have := count_set his hu; omega)
      · rw [getD_set his] at hl
        by_cases hji : i = j
        · subst hji
          refine ⟨fun hlt => ?_, by rw [if_pos rfl]; exact hf⟩
          rw [Array.getElem?_setIfInBounds_self, if_pos (by rw [hm.tsize]; exact hlt), if_pos rfl]
        · rw [if_neg hji] at hl
          obtain ⟨h2, h3⟩ := hm.here j hj hl
          rw [Array.getElem?_setIfInBounds_ne (fun e => hji (hapart i j hil hj e)), if_neg (fun e => hji e.symm)]
          refine ⟨h2, hF j i _ _ _ hj hil hji ?_ h3 hg⟩
          cases hw : waits l f j i with
          | false => rfl
          | true =>
            have := waits_listed hm.shut f j i hw hl
            rw [hu] at this
            cases this
      · rw [getD_set his] at hl
        by_cases hji : i = j
        · rw [if_pos hji] at hl; cases hl
        · rw [if_neg hji] at hl
          refine hI j i _ _ (by omega) hil hji ?_ (hm.wait j hj hl) hg
          cases hw : waits l f i j with
          | false => rfl
          | true =>
            exfalso
            have hset : ∀ q p, l[q]? = some p → (listed.setIfInBounds i true).getD q true = true → ∀ k ∈ beforeOf p, (listed.setIfInBounds i true).getD k true = true := by
              intro q p hq hlq k hk
              rw [getD_set his] at hlq ⊢
              by_cases hki : i = k
              · rw [if_pos hki]
              · rw [if_neg hki]
                by_cases hqi : i = q
                · subst hqi
                  obtain rfl : o = p := by rw [hoi] at hq; exact Option.some.inj hq
                  exact (hbk' k hk).2
                · rw [if_neg hqi] at hlq
                  exact hm.shut q p hq hlq k hk
            have := waits_listed hset f i j hw (by rw [getD_set his, if_pos rfl])
            rw [getD_set his, if_neg hji, hl] at this
            cases this
      · refine hI l.length i _ _ (Nat.le_refl _) hil (by omega) ?_ hm.fin hg
        cases hw : waits l f i l.length with
        | false => rfl
        | true =>
          exfalso
          have : ∀ (f q : Nat), waits l f q l.length = true → False := by
            intro f
            induction f with
            | zero => intro q h; simp [waits] at h
            | succ f ihf =>
              intro q h
              unfold waits at h
              split at h
              · cases h
              · rename_i p hp
                obtain ⟨k, hk, hk2⟩ := List.any_eq_true.1 h
                rw [Bool.or_eq_true] at hk2
                rcases hk2 with e | e
                · have := (hslot q p hp).2.2.1 k hk
                  have hq : q < l.length := (List.getElem?_eq_some_iff.1 hp).1
                  rw [beq_iff_eq.1 e] at this
                  omega
                · exact ihf k e
          exact this f i hw
      · have hdi : D.getD i 0 ≠ d := hd i hil (by rw [getD_set his, if_pos rfl])
        rw [Array.getElem?_setIfInBounds_ne hdi]
        exact hm.other d fun j hj hl => hd j hj (by rw [getD_set his]; split <;> simp [hl])
      · rw [getD_set his] at hl ⊢
        by_cases hki : i = k
        · rw [if_pos hki]
        · rw [if_neg hki]
          by_cases hji : i = j
          · subst hji
            obtain rfl : o = oj := by rw [hoi] at hoj; exact Option.some.inj hoj
            exact (hbk' k hk).2
          · rw [if_neg hji] at hl
            exact hm.shut j oj hoj hl k hk
    have hw := wanted_same (o := o) hsame
    unfold wpOp
    rw [show l.toArray[i]? = some o by simpa using hoi]
    show if Region.wanted o (yielded l.toArray t) = true then _ else _
    rw [hw]
    split
    · rename_i hwt
      replace h1 := h1.1 hwt
      refine .inl ?_
      exact wp_same2 (R := fun v w' => Gs i w w' ∧ F i v w') (by rw [fold_size, hm.tsize]) (by rw [fold_size]; exact hdst) (exec_same hsel hsame) h1 (fun v w' hr => hnext v w' hr.1 hr.2)
    · rename_i hwt
      replace h1 := h1.2 (by simpa using hwt)
      have hn := hnext undef w h1.1 h1.2
      rcases hdst with ⟨hd1, _⟩ | ⟨hd1, hd2⟩
      · rw [hd1]; exact hn
      · rw [hd1]
        have e2 : t.setIfInBounds (D.getD i 0) undef = t := Array.setIfInBounds_eq_of_size_le (by rw [hm.tsize]; exact hd2)
        rw [e2] at hn
        exact hn
/-- The ways of the operations that write; all others keep what was there. -/
def pickG : List (Nat × (World → World → Prop)) → Nat → World → World → Prop
  | [], _ => Kept
  | (s, G) :: r, j => if j = s then G else pickG r j
def pickI : List (Nat × (World → Prop)) → Nat → World → Prop
  | [], _, _ => True
  | (s, p) :: r, i, w => if i = s then p w else pickI r i w
/-- What is left by each operation bears a writing operation, or the operation comes behind it. -/
def AllBear (l : List Oper) (f : Nat) (s : Nat) (G : World → World → Prop) : List (Value → World → Prop) → Nat → Prop
  | [], _ => True
  | p :: r, i => (Stays G p ∨ waits l f i s = true ∨ i = s) ∧ AllBear l f s G r (i + 1)
def BearAll (l : List Oper) (f : Nat) (L : List (Value → World → Prop)) : List (Nat × (World → World → Prop)) → Prop
  | [] => True
  | (s, G) :: r => AllBear l f s G L 0 ∧ BearAll l f L r
def StaysI (G : World → World → Prop) (p : World → Prop) : Prop := ∀ w w', p w → G w w' → p w'
def AllBearI (l : List Oper) (f : Nat) (s : Nat) (G : World → World → Prop) : List (Nat × (World → Prop)) → Prop
  | [] => True
  | (i, p) :: r => (StaysI G p ∨ waits l f s i = true ∨ s = i) ∧ AllBearI l f s G r
def BearAllI (l : List Oper) (f : Nat) (L : List (Nat × (World → Prop))) : List (Nat × (World → World → Prop)) → Prop
  | [] => True
  | (s, G) :: r => AllBearI l f s G L ∧ BearAllI l f L r
def AllKeepI : List (Nat × (World → Prop)) → Prop
  | [] => True
  | (_, p) :: r => StaysI Kept p ∧ AllKeepI r
theorem AllBear.get {f s : Nat} {G : World → World → Prop} : ∀ {L : List (Value → World → Prop)} {k : Nat}, AllBear l f s G L k → ∀ i v w w', s ≠ k + i → waits l f (k + i) s = false → pickF L i v w → G w w' → pickF L i v w'
  | [], _, _, _, _, _, _, _, _, _, _ => by simp [pickF]
  | p :: r, k, h, 0, v, w, w', hs, hw, hp, hg => by
    rcases h.1 with h1 | h1 | h1
    · exact h1 v w w' hp hg
    · rw [Nat.add_zero] at hw; rw [hw] at h1; cases h1
    · exact absurd h1.symm hs
  | p :: r, k, h, i + 1, v, w, w', hs, hw, hp, hg =>
    AllBear.get (L := r) (k := k + 1) h.2 i v w w' (by omega) (by rw [show k + 1 + i = k + (i + 1) by omega]; exact hw) hp hg
theorem AllBearI.get {f s : Nat} {G : World → World → Prop} : ∀ {L : List (Nat × (World → Prop))}, AllBearI l f s G L → ∀ i w w', s ≠ i → waits l f s i = false → pickI L i w → G w w' → pickI L i w'
  | [], _, _, _, _, _, _, _, _ => trivial
  | (k, p) :: r, h, i, w, w', hs, hw, hp, hg => by
    unfold pickI at hp ⊢
    by_cases e : i = k
    · rw [if_pos e] at hp ⊢
      rcases h.1 with h1 | h1 | h1
      · exact h1 w w' hp hg
      · rw [← e, hw] at h1; cases h1
      · exact absurd (h1.trans e.symm) hs
    · rw [if_neg e] at hp ⊢
      exact AllBearI.get (L := r) h.2 i w w' hs hw hp hg
theorem keepI_get : ∀ {L : List (Nat × (World → Prop))}, AllKeepI L → ∀ i w w', pickI L i w → Kept w w' → pickI L i w'
  | [], _, _, _, _, _, _ => trivial
  | (k, p) :: r, h, i, w, w', hp, hg => by
    unfold pickI at hp ⊢
    by_cases e : i = k
    · rw [if_pos e] at hp ⊢; exact h.1 w w' hp hg
    · rw [if_neg e] at hp ⊢; exact keepI_get (L := r) h.2 i w w' hp hg
theorem bear_get {f : Nat} {L : List (Value → World → Prop)} (hk : AllStay Kept L) : ∀ {S : List (Nat × (World → World → Prop))}, BearAll l f L S → ∀ i j v w w', j ≠ i → waits l f i j = false → pickF L i v w → pickG S j w w' → pickF L i v w'
  | [], _, i, _, v, w, w', _, _, hp, hg => pick_stays hk i v w w' hp hg
  | (s, G) :: r, h, i, j, v, w, w', hne, hw, hp, hg => by
    unfold pickG at hg
    by_cases e : j = s
    · rw [if_pos e] at hg
      subst e
      have := AllBear.get h.1 i v w w' (by rw [Nat.zero_add]; exact hne) (by rw [Nat.zero_add]; exact hw) hp hg
      exact this
    · rw [if_neg e] at hg
      exact bear_get hk (S := r) h.2 i j v w w' hne hw hp hg
theorem bearI_get {f : Nat} {L : List (Nat × (World → Prop))} (hk : AllKeepI L) : ∀ {S : List (Nat × (World → World → Prop))}, BearAllI l f L S → ∀ i j w w', j ≠ i → waits l f j i = false → pickI L i w → pickG S j w w' → pickI L i w'
  | [], _, i, _, w, w', _, _, hp, hg => keepI_get hk i w w' hp hg
  | (s, G) :: r, h, i, j, w, w', hne, hw, hp, hg => by
    unfold pickG at hg
    by_cases e : j = s
    · rw [if_pos e] at hg
      subst e
      exact AllBearI.get h.1 i w w' hne hw hp hg
    · rw [if_neg e] at hg
      exact bearI_get hk (S := r) h.2 i j w w' hne hw hp hg
def HoldI (w : World) : List (Nat × (World → Prop)) → Prop
  | [] => True
  | (_, p) :: r => p w ∧ HoldI w r
theorem hold_get {w : World} : ∀ {L : List (Nat × (World → Prop))}, HoldI w L → ∀ i, pickI L i w
  | [], _, _ => trivial
  | (k, p) :: r, h, i => by
    unfold pickI
    by_cases e : i = k
    · rw [if_pos e]; exact h.1
    · rw [if_neg e]; exact hold_get (L := r) h.2 i
theorem reg_order {Q : Exit → Act → World → Prop} {id : Nat} {w : World} (L : List (Value → World → Prop)) (S : List (Nat × (World → World → Prop))) (IL : List (Nat × (World → Prop))) (D : List Tmp) (Bs : List (List Nat)) (Ns : List Nat) (f : Nat) (hm : P.follows .mixedOrders = true)
    (hLk : AllStay Kept L) (hLS : BearAll l f L S) (hIk : AllKeepI IL) (hIS : BearAllI l f IL S) (h0 : HoldI w.drew IL)
    (m : Nat) (hsz : t0.size = m) (hok : slotsOk2 l D Bs m = true) (hap : slotsApart D l.length = true) (hB : Bs.length = l.length) (hN : List.range l.length = Ns) (n : Nat) (hn : l.length = n) (ho : Obls2 P (pickG S) (pickI IL) (pickF L) D ds l t0 l 0 Bs)
    (hQ : ∀ w', pickI IL n w' → Given (pickF L) D w' t0 Ns fun t => Q .normal ⟨t, ds⟩ w') : (Code.region id l.toArray true).wp P Q ⟨t0, ds⟩ w := by
  subst hsz
  subst hN
  subst hn
  refine wp_region_any hm (reg_mid2 f (fun i j v w w' _ _ hne hw hp hg => bear_get hLk hLS i j v w w' hne hw hp hg) (fun i j w w' _ _ hne hw hp hg => bearI_get hIk hIS i j w w' hne hw hp hg) hok hap hB ho hQ _ (fun _ => undef) _ _ _ ⟨by simp, rfl, fun j hj hl => ?_, fun j hj _ => hold_get h0 j, hold_get h0 _, fun d _ => rfl, fun j oj hoj hl => ?_⟩ (by simp))
  · simp [Array.getD, hj] at hl
  · simp [Array.getD, (List.getElem?_eq_some_iff.1 hoj).1] at hl
theorem turn2_on {Gs : Nat → World → World → Prop} {o : Oper} {i : Nat} {t : Array Value} {w : World} (hc : Region.wanted o (yielded l.toArray t) = true)
    (h : ∀ K : Act → World → Prop, (∀ a' w', (a'.defers = ds ∧ Gs i w w' ∧ F i (a'.tmps.getD (D.getD i 0) undef) w') → K a' w') → Oper.wp P o ⟨t, ds⟩ w K (fun _ _ _ => False)) :
    Turn2 P Gs F D ds l w o i t := ⟨fun _ => h _ (fun _ _ h => h), fun h' => by rw [hc] at h'; cases h'⟩
theorem turn2_off {Gs : Nat → World → World → Prop} {o : Oper} {i : Nat} {t : Array Value} {w : World} (hc : Region.wanted o (yielded l.toArray t) = false) (h1 : Gs i w w) (h : F i undef w) : Turn2 P Gs F D ds l w o i t :=
  ⟨fun h' => absurd (hc.symm.trans h') (by simp), fun _ => ⟨h1, h⟩⟩
end
end Go.Proofs.Ytlhpdkapddnbcaa

namespace Go.Proofs.Ytlhpdkapddnbcaa
open Go.RowKit
/-- Block h is one cell of type T that holds the slice v; the slice is a row from block h + 1 on. -/
structure VarAt (k : IntKind) (T e : TypeId) (w : World) (h : Nat) (v : Value) (l : List Int) : Prop where
  row : w.heap[h]? = some (.cells #[v] T (0, 0))
  own : Owns k e w (h + 1) v l
section
variable {k : IntKind} {T e : TypeId} {w w' : World} {h : Nat} {v : Value} {l : List Int}
theorem VarAt.lt (o : VarAt k T e w h v l) : h < w.heap.size := (Array.getElem?_eq_some_iff.1 o.row).1
theorem VarAt.below (o : VarAt k T e w h v l) (hb : Below w.heap.size w w') : VarAt k T e w' h v l :=
  ⟨by rw [hb.block h o.lt]; exact o.row, o.own.below hb⟩
theorem row_cell (o : w.heap[h]? = some (.cells #[v] T (0, 0))) : w.cell? ⟨h, 0, none⟩ = some v ∧ w.frozen? ⟨h, 0, none⟩ = false :=
  ⟨by rw [cell_of_row w _ _ _ _ _ o]; rfl, frozen_of_row w _ _ _ _ o⟩
theorem store_grown (w : World) (h : Nat) (x : Value) : w.grownBy (w.setCell ⟨h, 0, none⟩ x) (some h) :=
  ⟨rfl, rfl, rfl, by simp, fun k _ hk => heap_setCell_other w ⟨h, 0, none⟩ k x (fun e => hk (by simp [e]))⟩
theorem row_keep {c : Obj} (o : w.heap[h]? = some c) (b : Below w.heap.size w w') : w'.heap[h]? = some c := by
  rw [b.block h (Array.getElem?_eq_some_iff.1 o).1]; exact o
/-- The new slice is laid in the variable. -/
theorem VarAt.store {x : Value} (o : w.heap[h]? = some (.cells #[x] T (0, 0))) (own : Owns k e w (h + 1) v l) : VarAt k T e (w.setCell ⟨h, 0, none⟩ v) h v l :=
  ⟨heap_setCell_same _ _ _ _ _ _ o, own.grown (store_grown w h v) (fun g hg e => by injection e with e; have := (own.at_base g hg).1; omega)⟩
theorem grown_row {x : Value} {row : Option Nat} (o : w.heap[h]? = some (.cells #[x] T (0, 0))) (g : w.grownBy w' row) (hr : row ≠ some h) : w'.heap[h]? = some (.cells #[x] T (0, 0)) := by
  rw [g.block h (Array.getElem?_eq_some_iff.1 o).1 (fun e => hr e.symm)]; exact o
theorem room_ne (own : Owns k e w (h + 1) v l) : room v ≠ some h := fun e => by have := (own.at_base h e).1; omega
/-- From w0 to w nothing that was there has turned but block h and one row. -/
structure Spared (h : Nat) (row : Option Nat) (w0 w : World) : Prop where
  os : w.os = w0.os
  tape : w.tape = w0.tape
  output : w.output = w0.output
  size : w0.heap.size ≤ w.heap.size
  block : ∀ g, g < w0.heap.size → g ≠ h → some g ≠ row → w.heap[g]? = w0.heap[g]?
theorem Spared.refl (h : Nat) (row : Option Nat) (w : World) : Spared h row w w := ⟨rfl, rfl, rfl, Nat.le_refl _, fun _ _ _ _ => rfl⟩
theorem Spared.kept {row : Option Nat} {w0 : World} (s : Spared h row w0 w) (b : Below w.heap.size w w') : Spared h row w0 w' :=
  ⟨b.os.trans s.os, b.tape.trans s.tape, b.output.trans s.output, Nat.le_trans s.size b.size, fun g h1 h2 h3 => by rw [b.block g (Nat.lt_of_lt_of_le h1 s.size)]; exact s.block g h1 h2 h3⟩
theorem Spared.row {row : Option Nat} {w0 : World} (s : Spared h row w0 w) (b : w.grownBy w' row) : Spared h row w0 w' :=
  ⟨b.os.trans s.os, b.tape.trans s.tape, b.output.trans s.output, Nat.le_trans s.size b.size, fun g h1 h2 h3 => by rw [b.block g (Nat.lt_of_lt_of_le h1 s.size) h3]; exact s.block g h1 h2 h3⟩
theorem Spared.at {row : Option Nat} {w0 : World} (s : Spared h row w0 w) (b : w.grownBy w' (some h)) : Spared h row w0 w' :=
  ⟨b.os.trans s.os, b.tape.trans s.tape, b.output.trans s.output, Nat.le_trans s.size b.size, fun g h1 h2 h3 => by rw [b.block g (Nat.lt_of_lt_of_le h1 s.size) (fun e => by injection e with e; exact h2 e)]; exact s.block g h1 h2 h3⟩
theorem Spared.below {row : Option Nat} {w0 : World} (s : Spared h row w0 w) (hl : h ≤ w0.heap.size) (hr : ∀ q, row = some q → h ≤ q) : Below h w0 w :=
  ⟨s.os, s.tape, s.output, s.size, fun g hg => s.block g (by omega) (by omega) (fun e => by have := hr g e.symm; omega)⟩
/-- The new slice has its room where the old one had it, or in a new block. -/
def NewRoom (w0 : World) (v v' : Value) : Prop := room v' = room v ∨ ∀ g, room v' = some g → w0.heap.size ≤ g
theorem Spared.trans {w0 : World} {v v' : Value} (s : Spared h (room v) w0 w) (n : NewRoom w0 v v') (s2 : Spared h (room v') w w') : Spared h (room v) w0 w' :=
  ⟨s2.os.trans s.os, s2.tape.trans s.tape, s2.output.trans s.output, Nat.le_trans s.size s2.size, fun g h1 h2 h3 => by
    rw [s2.block g (Nat.lt_of_lt_of_le h1 s.size) h2 (fun e => by
      rcases n with n | n
      · exact h3 (e.trans n)
      · have := n g e.symm; omega)]
    exact s.block g h1 h2 h3⟩
theorem NewRoom.trans {w0 : World} {v v' v'' : Value} (n : NewRoom w0 v v') (hs : w0.heap.size ≤ w.heap.size) (n2 : NewRoom w v' v'') : NewRoom w0 v v'' := by
  rcases n2 with e | e
  · rcases n with n | n
    · exact .inl (e.trans n)
    · exact .inr (fun g hg => n g (e ▸ hg))
  · exact .inr (fun g hg => Nat.le_trans hs (e g hg))
theorem RdAt.spared {kd : IntKind} {row : Option Nat} {w0 : World} {a : Option Addr} {n c : Nat} {b : List Int} (r : RdAt kd w0 a n c b) (s : Spared h row w0 w) (hne : ∀ x, a = some x → x.block ≠ h ∧ some x.block ≠ row) : RdAt kd w a n c b :=
  ⟨r.len, r.cap, r.max, fun i hi => by
    obtain ⟨g, o, e, hc⟩ := r.cell i hi
    obtain ⟨h1, h2⟩ := hne _ e
    refine ⟨g, o, e, ?_⟩
    have := s.block g (block_lt_of_cell hc) h1 h2
    simp only [World.cell?] at hc ⊢
    rw [this]; exact hc, r.wf, r.void⟩
/-- The same where nothing is asked of a slice without elements. -/
theorem RdAt.sparedN {kd : IntKind} {row : Option Nat} {w0 : World} {a : Option Addr} {n c : Nat} {b : List Int} (r : RdAt kd w0 a n c b) (s : Spared h row w0 w) (hne : ∀ x, a = some x → 0 < n → x.block ≠ h ∧ some x.block ≠ row) : RdAt kd w a n c b :=
  ⟨r.len, r.cap, r.max, fun i hi => by
    obtain ⟨g, o, e, hc⟩ := r.cell i hi
    obtain ⟨h1, h2⟩ := hne _ e (by omega)
    refine ⟨g, o, e, ?_⟩
    have := s.block g (block_lt_of_cell hc) h1 h2
    simp only [World.cell?] at hc ⊢
    rw [this]; exact hc, r.wf, r.void⟩
theorem RdAt.grownN {kd : IntKind} {row : Option Nat} {a : Option Addr} {n c : Nat} {b : List Int} (r : RdAt kd w a n c b) (hg : w.grownBy w' row) (hne : ∀ x, a = some x → 0 < n → some x.block ≠ row) : RdAt kd w' a n c b :=
  ⟨r.len, r.cap, r.max, fun i hi => by
    obtain ⟨g, o, e, hc⟩ := r.cell i hi
    exact ⟨g, o, e, hg.cell hc (show some g ≠ row from hne _ e (by omega))⟩, r.wf, r.void⟩
theorem RdAt.keptW {kd : IntKind} {a : Option Addr} {n c : Nat} {b : List Int} (r : RdAt kd w a n c b) (hk : Kept w.drew w') : RdAt kd w' a n c b :=
  RdAt.below (w := w.drew) ⟨r.len, r.cap, r.max, r.cell, r.wf, r.void⟩ hk
theorem Owns.keptD {base : Nat} (o : Owns k e w base v l) (hk : Kept w.drew w') : Owns k e w' base v l := Owns.below (w := w.drew) o hk
end
end Go.Proofs.Ytlhpdkapddnbcaa

namespace Go.Proofs.Ytlhpdkapddnbcaa
open Go.RowKit
structure Dk where
  off : Bool
  armed : Int
  keep : List Bool
  size : Nat
  kept : List (List Int)
  pend : List (Int × List Int)
  writes : Int
  reads : Int
/-- Which pending write of a sector is the last. -/
def lastR : List (Int × List Int) → Int → Option Int
  | [], _ => none
  | (t, _) :: r, s => if s = t then some ((r.length : Nat) : Int) else lastR r s
def lastOf (p : List (Int × List Int)) (s : Int) : Option Int := lastR p.reverse s
theorem lastOf_snoc (p : List (Int × List Int)) (t : Int) (b : List Int) (s : Int) : lastOf (p ++ [(t, b)]) s = if s = t then some ((p.length : Nat) : Int) else lastOf p s := by
  unfold lastOf
  rw [List.reverse_append, List.reverse_singleton, List.singleton_append, lastR, List.length_reverse]
theorem lastR_some : ∀ {p : List (Int × List Int)} {s i : Int}, lastR p s = some i → ∃ k : Nat, i = k ∧ k < p.length ∧ ∃ b, p.reverse[k]? = some (s, b)
  | (t, b) :: r, s, i, h => by
    rw [lastR] at h
    split at h
    · rename_i e
      injection h with h
      refine ⟨r.length, h.symm, by simp, b, ?_⟩
      rw [List.reverse_cons, List.getElem?_append_right (by simp), e]
      simp
    · obtain ⟨k, h1, h2, b', h3⟩ := lastR_some h
      refine ⟨k, h1, by simp; omega, b', ?_⟩
      rw [List.reverse_cons, List.getElem?_append_left (by simpa using h2)]
      exact h3
theorem lastOf_some {p : List (Int × List Int)} {s i : Int} (h : lastOf p s = some i) : ∃ k : Nat, i = k ∧ k < p.length ∧ ∃ b, p[k]? = some (s, b) := by
  obtain ⟨k, h1, h2, b, h3⟩ := lastR_some h
  exact ⟨k, h1, by simpa using h2, b, by simpa using h3⟩
/-- Pending writes kept: those of which κ tells true. -/
def settleK (κ : Nat → Bool) : Nat → List (Int × List Int) → List (List Int) → List (List Int)
  | _, [], k => k
  | i, (s, b) :: r, k => settleK κ (i + 1) r (if κ i then k.set s.toNat b else k)
theorem settleK_len (κ : Nat → Bool) : ∀ (p : List (Int × List Int)) (i : Nat) (k : List (List Int)), (settleK κ i p k).length = k.length
  | [], _, _ => rfl
  | (s, b) :: r, i, k => by
    rw [settleK, settleK_len κ r]
    split
    · rw [List.length_set]
    · rfl
def cutS (st : Dk) (keep : List Bool) : Dk := { st with off := true, armed := 0, kept := settleK (fun i => keep.getD i false) 0 st.pend st.kept, pend := [] }
def flushS (st : Dk) : Dk := { st with kept := settleK (fun _ => true) 0 st.pend st.kept, pend := [] }
/-- A sector that there is, and a whole one's bytes. -/
def fitW (st : Dk) (s : Int) (l : List Int) : Bool := decide (0 ≤ s) && decide (s < st.kept.length) && decide (l.length = st.size)
def wrE (st : Dk) (s : Int) (l : List Int) : Int := if st.off then 8 else if fitW st s l = false then 1 else if st.armed = 1 then 8 else 0
def putS (st : Dk) (s : Int) (l : List Int) : Dk := { st with armed := if st.armed = 0 then 0 else st.armed - 1, pend := st.pend ++ [(s, l)], writes := st.writes + 1 }
def wrS (st : Dk) (s : Int) (l : List Int) : Dk := if st.off then st else if fitW st s l = false then st else if st.armed = 1 then cutS st st.keep else putS st s l
/-- The bytes that a sector reads as. -/
def secB (st : Dk) (s : Nat) : List Int := match lastOf st.pend s with
  | some i => ((st.pend[i.toNat]?).map (·.2)).getD []
  | none => (st.kept[s]?).getD []
def inS (st : Dk) (s : Int) : Bool := decide (0 ≤ s) && decide (s < st.kept.length)
def rdE (st : Dk) (s : Int) : Int := if st.off then 8 else if inS st s = false then 1 else 0
def rdS (st : Dk) (s : Int) : Dk := if rdE st s = 0 then { st with reads := st.reads + 1 } else st
def rdV (st : Dk) (s : Int) : List Int := if rdE st s = 0 then secB st s.toNat else []
/-- A disk's shape, and what it holds, as they may be. -/
structure DkOk (st : Dk) : Prop where
  size : 64 ≤ st.size ∧ st.size ≤ 4096
  n : 1 ≤ st.kept.length ∧ st.kept.length ≤ 65536
  kept : ∀ l ∈ st.kept, l.length = st.size
  pend : ∀ p ∈ st.pend, p.2.length = st.size ∧ 0 ≤ p.1 ∧ p.1 < st.kept.length
  armed : 0 ≤ st.armed ∧ st.armed ≤ 9223372036854775807
  few : st.pend.length ≤ 1000000
  writes : 0 ≤ st.writes ∧ st.writes ≤ 4611686018427387904
  reads : 0 ≤ st.reads ∧ st.reads ≤ 4611686018427387904
/-- Two rows of one length, each pair so. -/
def All2 {α β : Type} (R : α → β → Prop) (l : List α) (r : List β) : Prop := l.length = r.length ∧ ∀ (i : Nat) (a : α) (b : β), l[i]? = some a → r[i]? = some b → R a b
theorem All2.imp {α β : Type} {R S : α → β → Prop} {l : List α} {r : List β} (h : All2 R l r) (f : ∀ a b, R a b → S a b) : All2 S l r := ⟨h.1, fun i a b h1 h2 => f a b (h.2 i a b h1 h2)⟩
theorem All2.snoc {α β : Type} {R : α → β → Prop} {l : List α} {r : List β} {a : α} {b : β} (h : All2 R l r) (hab : R a b) : All2 R (l ++ [a]) (r ++ [b]) := by
  refine ⟨by rw [List.length_append, List.length_append, h.1]; rfl, fun i x y hx hy => ?_⟩
  by_cases hi : i < l.length
  · rw [List.getElem?_append_left hi] at hx
    rw [List.getElem?_append_left (by rw [← h.1]; exact hi)] at hy
    exact h.2 i x y hx hy
  · rw [List.getElem?_append_right (by omega)] at hx
    rw [List.getElem?_append_right (by rw [← h.1]; omega), ← h.1] at hy
    by_cases h0 : i - l.length = 0
    · rw [h0] at hx hy
      simp at hx hy
      rw [← hx, ← hy]; exact hab
    · obtain ⟨k, hk⟩ : ∃ k, i - l.length = k + 1 := ⟨i - l.length - 1, by omega⟩
      rw [hk] at hx
      simp at hx
theorem All2.set {α β : Type} {R : α → β → Prop} {l : List α} {r : List β} {a : α} {b : β} (h : All2 R l r) (k : Nat) (hab : R a b) : All2 R (l.set k a) (r.set k b) := by
  refine ⟨by rw [List.length_set, List.length_set, h.1], fun i x y hx hy => ?_⟩
  rw [List.getElem?_set] at hx hy
  by_cases hi : k = i
  · rw [if_pos hi] at hx hy
    split at hx
    · split at hy
      · injection hx with hx
        injection hy with hy
        rw [← hx, ← hy]; exact hab
      · cases hy
    · cases hx
  · rw [if_neg hi] at hx hy
    exact h.2 i x y hx hy
theorem All2.get {α β : Type} {R : α → β → Prop} {l : List α} {r : List β} (h : All2 R l r) {i : Nat} {b : β} (hb : r[i]? = some b) : ∃ a, l[i]? = some a ∧ R a b := by
  have hi : i < r.length := (List.getElem?_eq_some_iff.1 hb).1
  have hl : i < l.length := by rw [h.1]; exact hi
  exact ⟨l[i], List.getElem?_eq_getElem hl, h.2 i _ _ (List.getElem?_eq_getElem hl) hb⟩
theorem All2.nil {α β : Type} (R : α → β → Prop) : All2 R ([] : List α) ([] : List β) := ⟨rfl, fun i a b h => by simp at h⟩
/-- A slice of some bytes, in a block that is none of M, and one of Z. -/
def SlcV (w : World) (M Z : Nat → Prop) (v : Value) (l : List Int) : Prop :=
  ∃ b o n c, v = .slice (some ⟨b, o, none⟩) n c ∧ RdAt .u8 w (some ⟨b, o, none⟩) n c l ∧ 0 < n ∧ ¬ M b ∧ Z b
/-- A sector's bytes: none yet, or a slice of them. -/
def SecV (w : World) (M Z : Nat → Prop) (size : Nat) (v : Value) (l : List Int) : Prop := (v = .slice none 0 0 ∧ l = List.replicate size 0) ∨ SlcV w M Z v l
/-- A slice of bools. -/
structure RdB (w : World) (a : Option Addr) (n c : Nat) (l : List Bool) : Prop where
  len : l.length = n
  cap : n ≤ c
  max : c ≤ maxLen
  cell : ∀ i, i < n → ∃ b o, a = some ⟨b, o, none⟩ ∧ w.cell? ⟨b, o + i, none⟩ = some (.bool (l.getD i false))
  void : a = none → c = 0
def KeepV (w : World) (M Z : Nat → Prop) (v : Value) (l : List Bool) : Prop := ∃ a n c, v = .slice a n c ∧ RdB w a n c l ∧ ∀ q, a = some q → 0 < n → ¬ M q.block ∧ Z q.block
/-- The pending writes' cells. -/
def pendC : List (Int × List Int) → List Value → List Value
  | p :: r, v :: t => .int .i64 p.1 :: v :: pendC r t
  | _, _ => []
/-- The blocks that a disk writes. -/
def MutD (d kb mb : Nat) (pv : Value) (b : Nat) : Prop := b = d ∨ b = kb ∨ b = mb ∨ pv.ownBlock = some b
structure DkP (w : World) (Z : Nat → Prop) (d kb mb : Nat) (pv kv : Value) (vals pvs : List Value) (st : Dk) : Prop where
  row : w.heap[d]? = some (.cells #[.bool st.off, .int .i64 st.armed, kv, .int .i64 st.size, .slice (some ⟨kb, 0, none⟩) st.kept.length st.kept.length, pv, .map (some mb), .int .i64 st.writes, .int .i64 st.reads] 51 (0, 0))
  krow : w.heap[kb]? = some (.cells vals.toArray 36 (0, 0))
  kvals : All2 (SecV w (MutD d kb mb pv) Z st.size) vals st.kept
  prow : w.ownsRow 0 104 2 pv st.pend.length (pendC st.pend pvs)
  pvals : All2 (fun v (p : Int × List Int) => SlcV w (MutD d kb mb pv) Z v p.2) pvs st.pend
  map : MapAt w mb (lastOf st.pend)
  keep : KeepV w (MutD d kb mb pv) Z kv st.keep
  ne : d ≠ kb ∧ d ≠ mb ∧ kb ≠ mb
  rm : ∀ g, pv.ownBlock = some g → g ≠ d ∧ g ≠ kb ∧ g ≠ mb
  z : ∀ b, MutD d kb mb pv b → Z b
  ok : DkOk st
/-- A disk in block d; all that it is made of lies in Z. -/
def DkIn (w : World) (Z : Nat → Prop) (d : Nat) (st : Dk) : Prop := (∀ k, Z k → k < w.heap.size) ∧ ∃ kb mb pv kv vals pvs, DkP w Z d kb mb pv kv vals pvs st
/-- Nothing has turned outside Z; what Z is now was in it, or is new. -/
structure Tnd (Z Z' : Nat → Prop) (w w' : World) : Prop where
  os : w'.os = w.os
  tape : w'.tape = w.tape
  output : w'.output = w.output
  size : w.heap.size ≤ w'.heap.size
  block : ∀ k, k < w.heap.size → ¬ Z k → w'.heap[k]? = w.heap[k]?
  sub : ∀ k, Z' k → Z k ∨ w.heap.size ≤ k
theorem Tnd.refl (Z : Nat → Prop) (w : World) : Tnd Z Z w w := ⟨rfl, rfl, rfl, Nat.le_refl _, fun _ _ _ => rfl, fun _ h => .inl h⟩
theorem Tnd.below {Z Z' : Nat → Prop} {w w' : World} {B : Nat} (h : Tnd Z Z' w w') (hZ : ∀ k, Z k → B ≤ k) (hB : B ≤ w.heap.size) : Below B w w' :=
  ⟨h.os, h.tape, h.output, h.size, fun k hk => h.block k (by omega) (fun hz => by have := hZ k hz; omega)⟩
theorem Tnd.base {Z Z' : Nat → Prop} {w w' : World} {B : Nat} (h : Tnd Z Z' w w') (hZ : ∀ k, Z k → B ≤ k) (hB : B ≤ w.heap.size) : ∀ k, Z' k → B ≤ k := fun k hk => by
  rcases h.sub k hk with h1 | h1
  · exact hZ k h1
  · omega
theorem RdAt.at {k : IntKind} {w w' : World} {b o n c : Nat} {l : List Int} (r : RdAt k w (some ⟨b, o, none⟩) n c l) (h : w'.heap[b]? = w.heap[b]?) : RdAt k w' (some ⟨b, o, none⟩) n c l :=
  ⟨r.len, r.cap, r.max, fun i hi => by
    obtain ⟨b', o', e, hc⟩ := r.cell i hi
    injection e with e
    injection e with e1 e2
    subst e1 e2
    exact ⟨b, o, rfl, by rw [← hc]; exact World.cell?_of_block (a := ⟨b, o + i, none⟩) h⟩, r.wf, r.void⟩
theorem SlcV.at {w w' : World} {M M' Z Z' : Nat → Prop} {v : Value} {l : List Int} (h : SlcV w M Z v l) (hb : ∀ b, Z b → ¬ M b → w'.heap[b]? = w.heap[b]?) (hM : ∀ b, Z b → ¬ M b → ¬ M' b) (hZ : ∀ b, Z b → Z' b) : SlcV w' M' Z' v l := by
  obtain ⟨b, o, n, c, rfl, hr, hn, hm, hz⟩ := h
  exact ⟨b, o, n, c, rfl, hr.at (hb b hz hm), hn, hM b hz hm, hZ b hz⟩
theorem SecV.at {w w' : World} {M M' Z Z' : Nat → Prop} {size : Nat} {v : Value} {l : List Int} (h : SecV w M Z size v l) (hb : ∀ b, Z b → ¬ M b → w'.heap[b]? = w.heap[b]?) (hM : ∀ b, Z b → ¬ M b → ¬ M' b) (hZ : ∀ b, Z b → Z' b) : SecV w' M' Z' size v l :=
  h.imp id fun h => h.at hb hM hZ
theorem KeepV.at {w w' : World} {M M' Z Z' : Nat → Prop} {v : Value} {l : List Bool} (h : KeepV w M Z v l) (hb : ∀ b, Z b → ¬ M b → w'.heap[b]? = w.heap[b]?) (hM : ∀ b, Z b → ¬ M b → ¬ M' b) (hZ : ∀ b, Z b → Z' b) : KeepV w' M' Z' v l := by
  obtain ⟨a, n, c, rfl, hr, hq⟩ := h
  refine ⟨a, n, c, rfl, ⟨hr.len, hr.cap, hr.max, fun i hi => ?_, hr.void⟩, fun q h1 h2 => ⟨hM _ (hq q h1 h2).2 (hq q h1 h2).1, hZ _ (hq q h1 h2).2⟩⟩
  obtain ⟨b, o, e, hc⟩ := hr.cell i hi
  have := hq _ e (by omega)
  exact ⟨b, o, e, by rw [← hc]; exact World.cell?_of_block (a := ⟨b, o + i, none⟩) (hb b this.2 this.1)⟩
theorem ownsRow_at {w w' : World} {e : TypeId} {size n : Nat} {v : Value} {xs : List Value} (h : w.ownsRow 0 e size v n xs) (hb : ∀ g, v.ownBlock = some g → w'.heap[g]? = w.heap[g]?) : w'.ownsRow 0 e size v n xs := by
  refine ⟨h.1, ?_⟩
  rcases h.2 with ⟨h1, h2⟩ | ⟨g, cap, cur, hv, h0, hh, h3⟩
  · exact .inl ⟨h1, h2⟩
  · exact .inr ⟨g, cap, cur, hv, h0, by rw [hb g (by rw [hv]; rfl)]; exact hh, h3⟩
end Go.Proofs.Ytlhpdkapddnbcaa
