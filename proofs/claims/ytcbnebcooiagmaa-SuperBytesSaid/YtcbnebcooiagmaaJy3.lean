/- Joined: Regions that draw their order: one obligation an operation, whatever the order. No program in sight. Regions that draw their order, some of whose operations write: each operation has its own way to turn the world; what an operation needs and what it leaves need only bear the operations that can come between. No program in sight. A variable that holds a row of numbers of the call's own. No program in sight. Regions that draw their order: small steps for a walk that is written out, order by order. No program in sight. -/
import Derived.Below
import Derived.ProofKit
import Derived.RegionTactic
import Derived.Test.YtcbnebcooiagmaaJy1
import Derived.Deep.DrawnRows
namespace Go.Proofs.Ytcbnebcooiagmaa
open Go.RowKit

/-- Which operations an operation waits for. -/
def beforeOf (o : Oper) : List Nat := (o.after.toList.filter (Region.binds .any)).map (·.on)

section
variable (P : Program) (G : World → World → Prop) (F : Nat → Value → World → Prop) (D : List Tmp) (ds : List Deferred)

/-- The values of some operations, each as it may be, laid in their slots. -/
def Given (w : World) : Array Value → List Nat → (Array Value → Prop) → Prop
  | t, [], k => k t
  | t, j :: r, k => ∀ v, F j v w → Given w (t.setIfInBounds (D.getD j 0) v) r k
/-- What is to be shown of one operation. -/
def Turn (l : List Oper) (w : World) (o : Oper) (i : Nat) (t : Array Value) : Prop :=
  (Region.wanted o (yielded l.toArray t) = true → Oper.wp P o ⟨t, ds⟩ w (fun a' w' => a'.defers = ds ∧ G w w' ∧ F i (a'.tmps.getD (D.getD i 0) undef) w') (fun _ _ _ => False)) ∧
  (Region.wanted o (yielded l.toArray t) = false → F i undef w)
def Obl (l : List Oper) (w0 : World) (t0 : Array Value) (o : Oper) (i : Nat) (B : List Nat) : Prop :=
  ∀ w, G w0 w → Given F D w t0 B fun t => Turn P G F D ds l w o i t
def Obls (l : List Oper) (w0 : World) (t0 : Array Value) : List Oper → Nat → List (List Nat) → Prop
  | o :: r, i, B :: Bs => Obl P G F D ds l w0 t0 o i B ∧ Obls l w0 t0 r (i + 1) Bs
  | _, _, _ => True
end

/-- The slots' facts that are read off the text alone. -/
def slotsOk (l : List Oper) (D : List Tmp) (Bs : List (List Nat)) (m : Nat) : Bool :=
  (List.range l.length).all fun i => match l[i]? with
    | none => true
    | some o => o.dst == some (D.getD i 0) && Nat.blt (D.getD i 0) m && (Bs.getD i []).all (fun j => (beforeOf o).contains j) && (beforeOf o).all (fun j => Nat.blt j i) &&
      (match o.op with | .select _ _ => false | _ => true) &&
      (o.looksAt l.toArray).all fun d => (List.range l.length).all fun j => D.getD j 0 != d || (Bs.getD i []).contains j || (match l[j]? with | some oj => (beforeOf oj).contains i | none => false)
def slotsApart (D : List Tmp) (n : Nat) : Bool := (List.range n).all fun i => (List.range n).all fun j => i == j || D.getD i 0 != D.getD j 0

section
variable {P : Program} {G : World → World → Prop} {F : Nat → Value → World → Prop} {D : List Tmp} {ds : List Deferred} {l : List Oper} {w0 : World} {t0 : Array Value}

theorem Obls.get {Bs : List (List Nat)} : ∀ {r : List Oper} {k : Nat} {B : List (List Nat)}, Obls P G F D ds l w0 t0 r k B → B.length = r.length → ∀ i o, r[i]? = some o → Obl P G F D ds l w0 t0 o (k + i) (B.getD i [])
  | [], _, _, _, _, i, o, h => by simp at h
  | o :: r, k, [], h, hl, _, _, _ => by simp at hl
  | o :: r, k, B :: Bs', h, hl, 0, o', h' => by
    simp at h'
    subst h'
    exact h.1
  | o :: r, k, B :: Bs', h, hl, i + 1, o', h' => by
    have := Obls.get (Bs := Bs) h.2 (by simpa using hl) i o' (by simpa using h')
    rw [show k + (i + 1) = k + 1 + i from by omega]
    simpa using this

theorem Given.use {w : World} {k : Array Value → Prop} (x : Nat → Value) : ∀ {B : List Nat} {t : Array Value}, Given F D w t B k → (∀ j ∈ B, F j (x j) w) → k (B.foldl (fun t j => t.setIfInBounds (D.getD j 0) (x j)) t)
  | [], _, h, _ => h
  | j :: r, t, h, hf => Given.use (B := r) (t := t.setIfInBounds (D.getD j 0) (x j)) x (h (x j) (hf j (by simp))) (fun i hi => hf i (by simp [hi]))

theorem fold_size (x : Nat → Value) : ∀ (B : List Nat) (t : Array Value), (B.foldl (fun t j => t.setIfInBounds (D.getD j 0) (x j)) t).size = t.size
  | [], _ => rfl
  | j :: r, t => by rw [List.foldl_cons, fold_size x r]; simp
theorem fold_other (x : Nat → Value) {d : Tmp} : ∀ (B : List Nat) (t : Array Value), (∀ j ∈ B, D.getD j 0 ≠ d) → (B.foldl (fun t j => t.setIfInBounds (D.getD j 0) (x j)) t)[d]? = t[d]?
  | [], _, _ => rfl
  | j :: r, t, h => by
    rw [List.foldl_cons, fold_other x r _ (fun i hi => h i (by simp [hi])), Array.getElem?_setIfInBounds_ne (h j (by simp))]
theorem fold_at (x : Nat → Value) {k : Nat} : ∀ (B : List Nat) (t : Array Value), k ∈ B → (∀ j ∈ B, D.getD j 0 = D.getD k 0 → j = k) → D.getD k 0 < t.size → (B.foldl (fun t j => t.setIfInBounds (D.getD j 0) (x j)) t)[D.getD k 0]? = some (x k)
  | [], _, h, _, _ => by cases h
  | j :: r, t, h, hu, hs => by
    rw [List.foldl_cons]
    by_cases hk : k ∈ r
    · exact fold_at x r _ hk (fun i hi => hu i (by simp [hi])) (by simpa using hs)
    · obtain rfl : k = j := by
        rcases List.mem_cons.1 h with h | h
        · exact h
        · exact absurd h hk
      rw [fold_other x r _ (fun i hi e => hk (hu i (by simp [hi]) e ▸ hi)), Array.getElem?_setIfInBounds_self]
      exact if_pos hs

theorem wanted_same {o : Oper} {ops : Array Oper} {t t' : Array Value} (h : ∀ d ∈ o.looksAt ops, t[d]? = t'[d]?) : Region.wanted o (yielded ops t) = Region.wanted o (yielded ops t') := by
  unfold Region.wanted
  cases hg : o.guard with
  | none => rfl
  | some gw =>
    obtain ⟨g, want⟩ := gw
    have hy : yielded ops t g = yielded ops t' g := by
      unfold yielded
      cases ht : (ops[g]?).bind (·.dst) with
      | none => rfl
      | some d =>
        have := h d (by simp [Oper.looksAt, hg, ht])
        simp only [Option.bind_some]
        rw [this]
    simp only [hy]
theorem exec_same {o : Oper} {ops : Array Oper} {t t' : Array Value} (hs : ∀ cs b, o.op ≠ .select cs b) (h : ∀ d ∈ o.looksAt ops, t[d]? = t'[d]?) : execOp (Act.mk t ds).eval o = execOp (Act.mk t' ds).eval o :=
  execOp_congr o hs fun x hx => by
    cases x with
    | tmp d =>
      have := h d (List.mem_append_left _ (List.mem_filterMap.2 ⟨.tmp d, by simpa using hx, rfl⟩))
      simp [Act.eval, Array.getD_eq_getD_getElem?, this]
    | _ => rfl

/-- What is shown over the slots that are looked at holds over all. -/
theorem wp_same {o : Oper} {t t' : Array Value} {w : World} {d : Tmp} {Q : Exit → Act → World → Prop} {K : Act → World → Prop} {R : Value → World → Prop} (hd : o.dst = some d) (hdt : d < t'.size)
    (he : execOp (Act.mk t ds).eval o = execOp (Act.mk t' ds).eval o)
    (h : Oper.wp P o ⟨t', ds⟩ w (fun a' w' => a'.defers = ds ∧ R (a'.tmps.getD d undef) w') (fun _ _ _ => False)) (hK : ∀ v w', R v w' → K ⟨t.setIfInBounds d v, ds⟩ w') :
    Oper.wp P o ⟨t, ds⟩ w K Q := by
  have hget : ∀ v : Value, (t'.setIfInBounds d v).getD d undef = v := fun v => by
    simp [Array.getD_eq_getD_getElem?, hdt]
  unfold Oper.wp at *
  rw [he]
  generalize (execOp (Act.mk t' ds).eval o).run P w = r at *
  have hput : ∀ v w', (((Act.mk t' ds).put o.dst v).defers = ds ∧ R (((Act.mk t' ds).put o.dst v).tmps.getD d undef) w') → K ((Act.mk t ds).put o.dst v) w' := by
    intro v w' ⟨_, hr⟩
    rw [hd] at hr ⊢
    simp only [Act.put, hget] at hr ⊢
    exact hK v w' hr
  cases r with
  | ok n w' =>
    cases n with
    | value v => exact hput v w' h
    | skip => exact hput undef w' h
    | enter f args => 
      refine Calls.mono h fun e w'' he' => ?_
      cases e with
      | returned v => exact hput v w'' he'
      | panicked c => exact he'.elim
      | outgrown => obtain ⟨_, _, hf⟩ := he'; exact hf.elim
    | row r args => exact Rows.mono h (fun v w'' hr => hput v w'' hr)
    | defer d' =>
      obtain ⟨hds, _⟩ := h
      rw [hd] at hds
      exact absurd hds (by simp [Act.put])
    | _ => exact h
  | halt x w' =>
    cases x with
    | panic v => exact h.elim
    | _ => exact h

/-- How far a region is: what is laid in the slots, by whichever order. -/
structure Mid (l : List Oper) (G : World → World → Prop) (F : Nat → Value → World → Prop) (D : List Tmp) (n : Nat) (w0 : World) (t0 : Array Value) (x : Nat → Value) (listed : Array Bool) (t : Array Value) (w : World) : Prop where
  size : listed.size = n
  went : G w0 w
  tsize : t.size = t0.size
  here : ∀ j, j < n → listed.getD j true = true → t[D.getD j 0]? = some (x j) ∧ F j (x j) w
  other : ∀ d, (∀ j, j < n → listed.getD j true = true → D.getD j 0 ≠ d) → t[d]? = t0[d]?
  shut : ∀ j o, l[j]? = some o → listed.getD j true = true → ∀ k ∈ beforeOf o, listed.getD k true = true

theorem count_set {listed : Array Bool} {i : Nat} (hi : i < listed.size) (h : listed.getD i true = false) : (listed.setIfInBounds i true).toList.count false + 1 = listed.toList.count false := by
  have h1 : listed.toList[i] = false := by simpa [Array.getD, hi] using h
  have hm : 0 < listed.toList.count false := List.count_pos_iff.2 (h1 ▸ List.getElem_mem _)
  rw [Array.toList_setIfInBounds, List.count_set (by simpa using hi)]
  rw [h1]
  show listed.toList.count false - 1 + 0 + 1 = listed.toList.count false
  omega

theorem getD_set {listed : Array Bool} {i j : Nat} (hi : i < listed.size) : (listed.setIfInBounds i true).getD j true = if i = j then true else listed.getD j true := by
  simp only [Array.getD_eq_getD_getElem?]
  by_cases h : i = j
  · subst h
    rw [Array.getElem?_setIfInBounds_self, if_pos hi, if_pos rfl]; rfl
  · rw [Array.getElem?_setIfInBounds_ne h, if_neg h]
theorem getD_any {listed : Array Bool} {j : Nat} (b c : Bool) (h : j < listed.size) : listed.getD j b = listed.getD j c := by simp [Array.getD, h]

/-- An operation whose turn has come waits for those alone that are listed. -/
theorem ready_mem {listed : Array Bool} {i : Nat} (h : i ∈ Region.ready .any l.toArray listed) : ∃ o, l[i]? = some o ∧ listed.getD i true = false ∧ ∀ k ∈ beforeOf o, listed.getD k false = true := by
  unfold Region.ready at h
  rw [List.mem_filter] at h
  obtain ⟨hi, hr⟩ := h
  rw [Bool.and_eq_true] at hr
  cases ho : l.toArray[i]? with
  | none => rw [ho] at hr; simp at hr
  | some o =>
    rw [ho] at hr
    refine ⟨o, by simpa using ho, by simpa using hr.1, fun k hk => ?_⟩
    unfold beforeOf at hk
    obtain ⟨e, he, rfl⟩ := List.mem_map.1 hk
    obtain ⟨he1, he2⟩ := List.mem_filter.1 he
    have := Array.all_eq_true_iff_forall_mem.1 (show o.after.all _ = true from hr.2) e (by simpa using he1)
    simpa [he2] using this
theorem ready_of {listed : Array Bool} {i : Nat} {o : Oper} (ho : l[i]? = some o) (hu : listed.getD i true = false) (hb : ∀ k ∈ beforeOf o, listed.getD k false = true) : i ∈ Region.ready .any l.toArray listed := by
  unfold Region.ready
  rw [List.mem_filter]
  have hi : i < l.length := (List.getElem?_eq_some_iff.1 ho).1
  refine ⟨by simpa using hi, ?_⟩
  rw [Bool.and_eq_true]
  refine ⟨by simp [hu], ?_⟩
  rw [show l.toArray[i]? = some o by simpa using ho]
  show (o.after.all _) = true
  refine Array.all_eq_true_iff_forall_mem.2 fun e he => ?_
  by_cases h : Region.binds .any e = true
  · have := hb e.on (List.mem_map.2 ⟨e, List.mem_filter.2 ⟨by simpa using he, h⟩, rfl⟩)
    simp [this]
  · simp [h]

/-- A REGION THAT DRAWS ITS ORDER, BY ONE OBLIGATION AN OPERATION. -/
theorem reg_mid {Q : Exit → Act → World → Prop} {Bs : List (List Nat)} (hR : ∀ a, G a a) (hG : ∀ a b c, G a b → G b c → G a c) (hF : ∀ i v w w', F i v w → G w w' → F i v w')
    (hok : slotsOk l D Bs t0.size = true) (hap : slotsApart D l.length = true) (hB : Bs.length = l.length) (ho : Obls P G F D ds l w0 t0 l 0 Bs)
    (hQ : ∀ w, G w0 w → Given F D w t0 (List.range l.length) fun t => Q .normal ⟨t, ds⟩ w) :
    ∀ (fuel : Nat) (x : Nat → Value) (listed : Array Bool) (t : Array Value) (w : World), Mid l G F D l.length w0 t0 x listed t w → listed.toList.count false = fuel → wpAny P .any l.toArray Q fuel listed ⟨t, ds⟩ w := by
  have hapart : ∀ i j, i < l.length → j < l.length → D.getD i 0 = D.getD j 0 → i = j := by
    intro i j hi hj he
    unfold slotsApart at hap
    have := List.all_eq_true.1 (List.all_eq_true.1 hap i (by simpa using hi)) j (by simpa using hj)
    rw [Bool.or_eq_true] at this
    rcases this with h | h
    · simpa using h
    · rw [he] at h; simp at h
  have hslot : ∀ i o, l[i]? = some o → o.dst = some (D.getD i 0) ∧ D.getD i 0 < t0.size ∧ (∀ j ∈ Bs.getD i [], j ∈ beforeOf o) ∧ (∀ j ∈ beforeOf o, j < i) ∧ (∀ cs b, o.op ≠ .select cs b) ∧
      ∀ d ∈ o.looksAt l.toArray, ∀ j oj, l[j]? = some oj → D.getD j 0 = d → j ∈ Bs.getD i [] ∨ i ∈ beforeOf oj := by
    intro i o h
    have hi : i < l.length := (List.getElem?_eq_some_iff.1 h).1
    unfold slotsOk at hok
    have h1 := List.all_eq_true.1 hok i (by simpa using hi)
    rw [h] at h1
    simp only [Bool.and_eq_true] at h1
    obtain ⟨⟨⟨⟨⟨a, b⟩, c⟩, d⟩, e⟩, f⟩ := h1
    refine ⟨by simpa using a, by simpa using b, fun j hj => by simpa using List.all_eq_true.1 c j hj, fun j hj => by simpa using List.all_eq_true.1 d j hj, fun cs b' he => ?_, fun d' hd' j oj hj hjd => ?_⟩
    · rw [he] at e; simp at e
    · have := List.all_eq_true.1 (List.all_eq_true.1 f d' hd') j (by simpa using (List.getElem?_eq_some_iff.1 hj).1)
      rw [hj] at this
      simp only [Bool.or_eq_true, bne_iff_ne, ne_eq, hjd, not_true_eq_false, false_or, List.contains_iff_mem] at this
      exact this
  have hfin : ∀ (x : Nat → Value) (listed : Array Bool) (t : Array Value) (w : World), Mid l G F D l.length w0 t0 x listed t w → (∀ j, j < l.length → listed.getD j true = true) → Q .normal ⟨t, ds⟩ w := by
    intro x listed t w hm hall
    have h1 := (hQ w hm.went).use x (fun j hj => (hm.here j (by simpa using hj) (hall j (by simpa using hj))).2)
    have h2 : (List.range l.length).foldl (fun t j => t.setIfInBounds (D.getD j 0) (x j)) t0 = t := by
      apply Array.ext_getElem?
      intro d
      by_cases hd : ∃ j, j < l.length ∧ D.getD j 0 = d
      · obtain ⟨j, hj, rfl⟩ := hd
        obtain ⟨o, hoj⟩ : ∃ o, l[j]? = some o := ⟨_, List.getElem?_eq_getElem hj⟩
        rw [fold_at x _ _ (by simpa using hj) (fun k hk e => hapart k j (by simpa using hk) hj e) (hslot j o hoj).2.1, (hm.here j hj (hall j hj)).1]
      · rw [fold_other x _ _ (fun j hj e => hd ⟨j, by simpa using hj, e⟩), hm.other d (fun j hj _ e => hd ⟨j, hj, e⟩)]
    rw [h2] at h1
    exact h1
  have hnil : ∀ (x : Nat → Value) (listed : Array Bool) (t : Array Value) (w : World), Mid l G F D l.length w0 t0 x listed t w → Region.ready .any l.toArray listed = [] → ∀ j, j < l.length → listed.getD j true = true := by
    intro x listed t w hm hr j
    induction j using Nat.strongRecOn with
    | _ j ih =>
      intro hj
      cases hu : listed.getD j true with
      | true => rfl
      | false =>
        obtain ⟨o, hoj⟩ : ∃ o, l[j]? = some o := ⟨_, List.getElem?_eq_getElem hj⟩
        obtain ⟨_, _, _, hlt, _, _⟩ := hslot j o hoj
        have := ready_of hoj hu (fun k hk => by
          have hkj := hlt k hk
          rw [getD_any false true (by rw [hm.size]; omega)]
          exact ih k hkj (by omega))
        rw [hr] at this
        cases this
  intro fuel
  induction fuel with
  | zero =>
    intro x listed t w hm hc
    have hall : ∀ j, j < l.length → listed.getD j true = true := by
      intro j hj
      have hjs : j < listed.size := by rw [hm.size]; exact hj
      have h0 : false ∉ listed.toList := List.count_eq_zero.1 hc
      cases hu : listed.getD j true with
      | true => rfl
      | false =>
        have : listed.toList[j] = false := by simpa [Array.getD, hjs] using hu
        exact absurd (this ▸ List.getElem_mem _) h0
    refine ⟨?_, hfin x listed t w hm hall⟩
    cases hr : Region.ready .any l.toArray listed with
    | nil => rfl
    | cons i r =>
      obtain ⟨o, hoi, hu, _⟩ := ready_mem (l := l) (listed := listed) (i := i) (by rw [hr]; simp)
      rw [hall i (List.getElem?_eq_some_iff.1 hoi).1] at hu
      cases hu
  | succ fuel ih =>
    intro x listed t w hm hc
    refine ⟨fun hr => hfin x listed t w hm (hnil x listed t w hm hr), fun i hi => ?_⟩
    obtain ⟨o, hoi, hu, hbk⟩ := ready_mem hi
    have hil : i < l.length := (List.getElem?_eq_some_iff.1 hoi).1
    have his : i < listed.size := by rw [hm.size]; exact hil
    obtain ⟨hdst, hlt, hbf, hbl, hsel, hlook⟩ := hslot i o hoi
    have hbk' : ∀ k ∈ beforeOf o, k < l.length ∧ listed.getD k true = true := fun k hk => by
      have := hbl k hk
      exact ⟨by omega, by rw [getD_any true false (by rw [hm.size]; omega)]; exact hbk k hk⟩
    have hob := ho.get (Bs := Bs) hB i o hoi
    rw [Nat.zero_add] at hob
    have h1 := (hob w hm.went).use x (fun j hj => (hm.here j (hbk' j (hbf j hj)).1 (hbk' j (hbf j hj)).2).2)
    have hsame : ∀ d ∈ o.looksAt l.toArray, t[d]? = ((Bs.getD i []).foldl (fun t j => t.setIfInBounds (D.getD j 0) (x j)) t0)[d]? := by
      intro d hd
      by_cases hx : ∃ j, j < l.length ∧ D.getD j 0 = d ∧ j ∈ Bs.getD i []
      · obtain ⟨j, hj, rfl, hjb⟩ := hx
        obtain ⟨oj, hoj⟩ : ∃ o, l[j]? = some o := ⟨_, List.getElem?_eq_getElem hj⟩
        rw [(hm.here j hj (hbk' j (hbf j hjb)).2).1, fold_at x _ _ hjb (fun k hk e => hapart k j (hbk' k (hbf k hk)).1 hj e) (hslot j oj hoj).2.1]
      · rw [fold_other x _ _ (fun j hj e => hx ⟨j, (hbk' j (hbf j hj)).1, e, hj⟩)]
        refine hm.other d fun j hj hjl e => ?_
        obtain ⟨oj, hoj⟩ : ∃ o, l[j]? = some o := ⟨_, List.getElem?_eq_getElem hj⟩
        rcases hlook d hd j oj hoj e with h | h
        · exact hx ⟨j, hj, e, h⟩
        · have := hm.shut j oj hoj hjl i h
          rw [hu] at this
          cases this
    -- what follows when the operation has yielded v
    have hnext : ∀ v w', G w w' → F i v w' → wpAny P .any l.toArray Q fuel (listed.setIfInBounds i true) ⟨t.setIfInBounds (D.getD i 0) v, ds⟩ w' := by
      intro v w' hg hf
      refine ih (fun j => if j = i then v else x j) _ _ _ ⟨by simp [hm.size], hG _ _ _ hm.went hg, by simp [hm.tsize], fun j hj hl => ?_, fun d hd => ?_, fun j oj hoj hl k hk => ?_⟩ (by have := count_set his hu; omega)
      · rw [getD_set his] at hl
        by_cases hji : i = j
        · subst hji
          rw [Array.getElem?_setIfInBounds_self, if_pos (by rw [hm.tsize]; exact hlt), if_pos rfl]
          exact ⟨rfl, hf⟩
        · rw [if_neg hji] at hl
          obtain ⟨h2, h3⟩ := hm.here j hj hl
          rw [Array.getElem?_setIfInBounds_ne (fun e => hji (hapart i j hil hj e)), if_neg (fun e => hji e.symm)]
          exact ⟨h2, hF j _ _ _ h3 hg⟩
      · have hdi : D.getD i 0 ≠ d := hd i hil (by rw [getD_set his, if_pos rfl])
        rw [Array.getElem?_setIfInBounds_ne hdi]
        exact hm.other d fun j hj hl => hd j hj (by rw [getD_set his]; split <;> simp [hl])
      · rw [getD_set his] at hl ⊢
        by_cases hki : i = k
        · rw [if_pos hki]
        · rw [if_neg hki]
          by_cases hji : i = j
          · subst hji
            obtain rfl : o = oj := by rw [hoi] at hoj; exact Option.some.inj hoj
            exact (hbk' k hk).2
          · rw [if_neg hji] at hl
            exact hm.shut j oj hoj hl k hk
    have hw := wanted_same (o := o) hsame
    unfold wpOp
    rw [show l.toArray[i]? = some o by simpa using hoi]
    show if Region.wanted o (yielded l.toArray t) = true then _ else _
    rw [hw]
    split
    · rename_i hwt
      replace h1 := h1.1 hwt
      refine .inl ?_
      exact wp_same (R := fun v w' => G w w' ∧ F i v w') hdst (by rw [fold_size]; exact hlt) (exec_same hsel hsame) h1 (fun v w' hr => hnext v w' hr.1 hr.2)
    · rename_i hwt
      replace h1 := h1.2 (by simpa using hwt)
      rw [hdst]
      exact hnext undef w (hR w) h1

theorem reg_free {Q : Exit → Act → World → Prop} {id : Nat} {w : World} (F : Nat → Value → World → Prop) (D : List Tmp) (Bs : List (List Nat)) (Ns : List Nat) (hm : P.follows .mixedOrders = true) (hR : ∀ a, G a a) (hG : ∀ a b c, G a b → G b c → G a c) (hF : ∀ i v w w', F i v w → G w w' → F i v w')
    (m : Nat) (hsz : t0.size = m) (hok : slotsOk l D Bs m = true) (hap : slotsApart D l.length = true) (hB : Bs.length = l.length) (hN : List.range l.length = Ns) (ho : Obls P G F D ds l w.drew t0 l 0 Bs)
    (hQ : ∀ w', G w.drew w' → Given F D w' t0 Ns fun t => Q .normal ⟨t, ds⟩ w') : (Code.region id l.toArray true).wp P Q ⟨t0, ds⟩ w := by
  subst hsz
  subst hN
  refine wp_region_any hm (reg_mid hR hG hF hok hap hB ho hQ _ (fun _ => undef) _ _ _ ⟨by simp, hR _, rfl, fun j hj hl => ?_, fun d _ => rfl, fun j oj hoj hl => ?_⟩ (by simp))
  · simp [Array.getD, hj] at hl
  · simp [Array.getD, (List.getElem?_eq_some_iff.1 hoj).1] at hl

/-- The usual relation: nothing that was there has turned. -/
def Kept (w w' : World) : Prop := Below w.heap.size w w'
theorem Kept.refl (w : World) : Kept w w := Below.refl _ _
theorem Kept.trans (a b c : World) (h : Kept a b) (k : Kept b c) : Kept a c := by
  unfold Kept at *
  exact h.trans (k.mono h.size)
def eqV (x : Value) : Value → World → Prop := fun v _ => v = x
def pickF (L : List (Value → World → Prop)) (i : Nat) (v : Value) (w : World) : Prop := L.getD i (fun _ _ => True) v w
def Stays (G : World → World → Prop) (p : Value → World → Prop) : Prop := ∀ v w w', p v w → G w w' → p v w'
def AllStay (G : World → World → Prop) : List (Value → World → Prop) → Prop
  | [] => True
  | p :: r => Stays G p ∧ AllStay G r
theorem eqV_stays (x : Value) : Stays G (eqV x) := fun _ _ _ h _ => h
theorem pick_stays : ∀ {L : List (Value → World → Prop)}, AllStay G L → ∀ i v w w', pickF L i v w → G w w' → pickF L i v w'
  | [], _, _, _, _, _, _, _ => by simp [pickF]
  | _ :: _, h, 0, v, w, w', hp, hg => h.1 v w w' hp hg
  | _ :: _, h, i + 1, v, w, w', hp, hg => pick_stays h.2 i v w w' hp hg
theorem turn_on {o : Oper} {i : Nat} {t : Array Value} {w : World} (hc : Region.wanted o (yielded l.toArray t) = true)
    (h : ∀ K : Act → World → Prop, (∀ a' w', (a'.defers = ds ∧ G w w' ∧ F i (a'.tmps.getD (D.getD i 0) undef) w') → K a' w') → Oper.wp P o ⟨t, ds⟩ w K (fun _ _ _ => False)) :
    Turn P G F D ds l w o i t := ⟨fun _ => h _ (fun _ _ h => h), fun h' => by rw [hc] at h'; cases h'⟩
theorem turn_off {o : Oper} {i : Nat} {t : Array Value} {w : World} (hc : Region.wanted o (yielded l.toArray t) = false) (h : F i undef w) : Turn P G F D ds l w o i t :=
  ⟨fun h' => absurd (hc.symm.trans h') (by simp), fun _ => h⟩
end
end Go.Proofs.Ytcbnebcooiagmaa
namespace Go.Proofs.Ytcbnebcooiagmaa
open Go.RowKit
/-- Operation i comes behind operation j (a walk along the edges of so many steps). -/
def waits (l : List Oper) : Nat → Nat → Nat → Bool
  | 0, _, _ => false
  | f + 1, i, j => match l[i]? with
    | none => false
    | some o => (beforeOf o).any fun k => k == j || waits l f k j
section
variable (P : Program) (Gs : Nat → World → World → Prop) (I : Nat → World → Prop) (F : Nat → Value → World → Prop) (D : List Tmp) (ds : List Deferred)
def Turn2 (l : List Oper) (w : World) (o : Oper) (i : Nat) (t : Array Value) : Prop :=
  (Region.wanted o (yielded l.toArray t) = true → Oper.wp P o ⟨t, ds⟩ w (fun a' w' => a'.defers = ds ∧ Gs i w w' ∧ F i (a'.tmps.getD (D.getD i 0) undef) w') (fun _ _ _ => False)) ∧
  (Region.wanted o (yielded l.toArray t) = false → Gs i w w ∧ F i undef w)
def Obl2 (l : List Oper) (t0 : Array Value) (o : Oper) (i : Nat) (B : List Nat) : Prop :=
  ∀ w, I i w → Given F D w t0 B fun t => Turn2 P Gs F D ds l w o i t
def Obls2 (l : List Oper) (t0 : Array Value) : List Oper → Nat → List (List Nat) → Prop
  | o :: r, i, B :: Bs => Obl2 P Gs I F D ds l t0 o i B ∧ Obls2 l t0 r (i + 1) Bs
  | _, _, _ => True
end
def slotsOk2 (l : List Oper) (D : List Tmp) (Bs : List (List Nat)) (m : Nat) : Bool :=
  (List.range l.length).all fun i => match l[i]? with
    | none => true
    | some o => (match o.dst with | some d => d == D.getD i 0 && Nat.blt (D.getD i 0) m | none => Nat.ble m (D.getD i 0)) && (Bs.getD i []).all (fun j => (beforeOf o).contains j) && (beforeOf o).all (fun j => Nat.blt j i) &&
      (match o.op with | .select _ _ => false | _ => true) &&
      (o.looksAt l.toArray).all fun d => (List.range l.length).all fun j => D.getD j 0 != d || (Bs.getD i []).contains j || (match l[j]? with | some oj => (beforeOf oj).contains i | none => false)
section
variable {P : Program} {Gs : Nat → World → World → Prop} {I : Nat → World → Prop} {F : Nat → Value → World → Prop} {D : List Tmp} {ds : List Deferred} {l : List Oper} {t0 : Array Value}
theorem Obls2.get {Bs : List (List Nat)} : ∀ {r : List Oper} {k : Nat} {B : List (List Nat)}, Obls2 P Gs I F D ds l t0 r k B → B.length = r.length → ∀ i o, r[i]? = some o → Obl2 P Gs I F D ds l t0 o (k + i) (B.getD i [])
  | [], _, _, _, _, i, o, h => by simp at h
  | o :: r, k, [], h, hl, _, _, _ => by simp at hl
  | o :: r, k, B :: Bs', h, hl, 0, o', h' => by
    simp at h'
    subst h'
    exact h.1
  | o :: r, k, B :: Bs', h, hl, i + 1, o', h' => by
    have := Obls2.get (Bs := Bs) h.2 (by simpa using hl) i o' (by simpa using h')
    rw [show k + (i + 1) = k + 1 + i from by omega]
    simpa using this
theorem wp_same2 {o : Oper} {t t' : Array Value} {w : World} {d : Tmp} {Q : Exit → Act → World → Prop} {K : Act → World → Prop} {R : Value → World → Prop} (hsz : t.size = t'.size) (hd : (o.dst = some d ∧ d < t'.size) ∨ (o.dst = none ∧ t'.size ≤ d))
    (he : execOp (Act.mk t ds).eval o = execOp (Act.mk t' ds).eval o)
    (h : Oper.wp P o ⟨t', ds⟩ w (fun a' w' => a'.defers = ds ∧ R (a'.tmps.getD d undef) w') (fun _ _ _ => False)) (hK : ∀ v w', R v w' → K ⟨t.setIfInBounds d v, ds⟩ w') :
    Oper.wp P o ⟨t, ds⟩ w K Q := by
  rcases hd with ⟨hd, hdt⟩ | ⟨hd, hdt⟩
  · exact wp_same hd hdt he h hK
  · have hno : ∀ v : Value, t.setIfInBounds d v = t := fun v => Array.setIfInBounds_eq_of_size_le (by omega)
    have hget : t'.getD d undef = undef := by simp [Array.getD_eq_getD_getElem?, hdt]
    unfold Oper.wp at *
    rw [he]
    generalize (execOp (Act.mk t' ds).eval o).run P w = r at *
    have hput : ∀ v w', (((Act.mk t' ds).put o.dst v).defers = ds ∧ R (((Act.mk t' ds).put o.dst v).tmps.getD d undef) w') → K ((Act.mk t ds).put o.dst v) w' := by
      intro v w' ⟨_, hr⟩
      rw [hd] at hr ⊢
      simp only [Act.put, hget] at hr ⊢
      have := hK undef w' hr
      rwa [hno] at this
    cases r with
    | ok n w' =>
      cases n with
      | value v => exact hput v w' h
      | skip => exact hput undef w' h
      | enter f args =>
        refine Calls.mono h fun e w'' he' => ?_
        cases e with
        | returned v => exact hput v w'' he'
        | panicked c => exact he'.elim
        | outgrown => obtain ⟨_, _, hf⟩ := he'; exact hf.elim
      | row r args => exact Rows.mono h (fun v w'' hr => hput v w'' hr)
      | defer d' =>
        obtain ⟨hds, _⟩ := h
        rw [hd] at hds
        exact absurd hds (by simp [Act.put])
      | _ => exact h
    | halt x w' =>
      cases x with
      | panic v => exact h.elim
      | _ => exact h
structure Mid2 (l : List Oper) (I : Nat → World → Prop) (F : Nat → Value → World → Prop) (D : List Tmp) (n : Nat) (t0 : Array Value) (x : Nat → Value) (listed : Array Bool) (t : Array Value) (w : World) : Prop where
  size : listed.size = n
  tsize : t.size = t0.size
  here : ∀ j, j < n → listed.getD j true = true → (D.getD j 0 < t0.size → t[D.getD j 0]? = some (x j)) ∧ F j (x j) w
  wait : ∀ j, j < n → listed.getD j true = false → I j w
  fin : I n w
  other : ∀ d, (∀ j, j < n → listed.getD j true = true → D.getD j 0 ≠ d) → t[d]? = t0[d]?
  shut : ∀ j o, l[j]? = some o → listed.getD j true = true → ∀ k ∈ beforeOf o, listed.getD k true = true
theorem waits_listed {listed : Array Bool} (shut : ∀ j o, l[j]? = some o → listed.getD j true = true → ∀ k ∈ beforeOf o, listed.getD k true = true) :
    ∀ (f i j : Nat), waits l f i j = true → listed.getD i true = true → listed.getD j true = true
  | 0, _, _, h, _ => by simp [waits] at h
  | f + 1, i, j, h, hi => by
    unfold waits at h
    split at h
    · cases h
    · rename_i o ho
      obtain ⟨k, hk, hk2⟩ := List.any_eq_true.1 h
      have hlk := shut i o ho hi k hk
      rw [Bool.or_eq_true] at hk2
      rcases hk2 with e | e
      · rw [← (beq_iff_eq.1 e)]; exact hlk
      · exact waits_listed shut f k j e hlk
theorem reg_mid2 {Q : Exit → Act → World → Prop} {Bs : List (List Nat)} (f : Nat)
    (hF : ∀ i j v w w', i < l.length → j < l.length → j ≠ i → waits l f i j = false → F i v w → Gs j w w' → F i v w')
    (hI : ∀ i j w w', i ≤ l.length → j < l.length → j ≠ i → waits l f j i = false → I i w → Gs j w w' → I i w')
    (hok : slotsOk2 l D Bs t0.size = true) (hap : slotsApart D l.length = true) (hB : Bs.length = l.length) (ho : Obls2 P Gs I F D ds l t0 l 0 Bs)
    (hQ : ∀ w, I l.length w → Given F D w t0 (List.range l.length) fun t => Q .normal ⟨t, ds⟩ w) :
    ∀ (fuel : Nat) (x : Nat → Value) (listed : Array Bool) (t : Array Value) (w : World), Mid2 l I F D l.length t0 x listed t w → listed.toList.count false = fuel → wpAny P .any l.toArray Q fuel listed ⟨t, ds⟩ w := by
  have hapart : ∀ i j, i < l.length → j < l.length → D.getD i 0 = D.getD j 0 → i = j := by
    intro i j hi hj he
    unfold slotsApart at hap
    have := List.all_eq_true.1 (List.all_eq_true.1 hap i (by simpa using hi)) j (by simpa using hj)
    rw [Bool.or_eq_true] at this
    rcases this with h | h
    · simpa using h
    · rw [he] at h; simp at h
  have hslot : ∀ i o, l[i]? = some o → ((o.dst = some (D.getD i 0) ∧ D.getD i 0 < t0.size) ∨ (o.dst = none ∧ t0.size ≤ D.getD i 0)) ∧ (∀ j ∈ Bs.getD i [], j ∈ beforeOf o) ∧ (∀ j ∈ beforeOf o, j < i) ∧ (∀ cs b, o.op ≠ .select cs b) ∧
      ∀ d ∈ o.looksAt l.toArray, ∀ j oj, l[j]? = some oj → D.getD j 0 = d → j ∈ Bs.getD i [] ∨ i ∈ beforeOf oj := by
    intro i o h
    have hi : i < l.length := (List.getElem?_eq_some_iff.1 h).1
    unfold slotsOk2 at hok
    have h1 := List.all_eq_true.1 hok i (by simpa using hi)
    rw [h] at h1
    simp only [Bool.and_eq_true] at h1
    obtain ⟨⟨⟨⟨a, c⟩, d⟩, e⟩, g⟩ := h1
    refine ⟨?_, fun j hj => by simpa using List.all_eq_true.1 c j hj, fun j hj => by simpa using List.all_eq_true.1 d j hj, fun cs b' he => ?_, fun d' hd' j oj hj hjd => ?_⟩
    · cases hdst : o.dst with
      | none => rw [hdst] at a; exact .inr ⟨rfl, by simpa using a⟩
      | some d => rw [hdst, Bool.and_eq_true, beq_iff_eq] at a; exact .inl ⟨by rw [a.1], by simpa using a.2⟩
    · rw [he] at e; simp at e
    · have := List.all_eq_true.1 (List.all_eq_true.1 g d' hd') j (by simpa using (List.getElem?_eq_some_iff.1 hj).1)
      rw [hj] at this
      simp only [Bool.or_eq_true, bne_iff_ne, ne_eq, hjd, not_true_eq_false, false_or, List.contains_iff_mem] at this
      exact this
  have hfin : ∀ (x : Nat → Value) (listed : Array Bool) (t : Array Value) (w : World), Mid2 l I F D l.length t0 x listed t w → (∀ j, j < l.length → listed.getD j true = true) → Q .normal ⟨t, ds⟩ w := by
    intro x listed t w hm hall
    have h1 := (hQ w hm.fin).use x (fun j hj => (hm.here j (by simpa using hj) (hall j (by simpa using hj))).2)
    have h2 : (List.range l.length).foldl (fun t j => t.setIfInBounds (D.getD j 0) (x j)) t0 = t := by
      apply Array.ext_getElem?
      intro d
      by_cases hd : ∃ j, j < l.length ∧ D.getD j 0 = d
      · obtain ⟨j, hj, rfl⟩ := hd
        by_cases hin : D.getD j 0 < t0.size
        · rw [fold_at x _ _ (by simpa using hj) (fun k hk e => hapart k j (by simpa using hk) hj e) hin, (hm.here j hj (hall j hj)).1 hin]
        · have hin' : t0.size ≤ D.getD j 0 := Nat.le_of_not_lt hin
          have e1 : ((List.range l.length).foldl (fun t j => t.setIfInBounds (D.getD j 0) (x j)) t0).size ≤ D.getD j 0 := by rw [fold_size]; omega
          have e2 : t.size ≤ D.getD j 0 := by rw [hm.tsize]; omega
          rw [Array.getElem?_eq_none e1, Array.getElem?_eq_none e2]
      · rw [fold_other x _ _ (fun j hj e => hd ⟨j, by simpa using hj, e⟩), hm.other d (fun j hj _ e => hd ⟨j, hj, e⟩)]
    rw [h2] at h1
    exact h1
  have hnil : ∀ (x : Nat → Value) (listed : Array Bool) (t : Array Value) (w : World), Mid2 l I F D l.length t0 x listed t w → Region.ready .any l.toArray listed = [] → ∀ j, j < l.length → listed.getD j true = true := by
    intro x listed t w hm hr j
    induction j using Nat.strongRecOn with
    | _ j ih =>
      intro hj
      cases hu : listed.getD j true with
      | true => rfl
      | false =>
        obtain ⟨o, hoj⟩ : ∃ o, l[j]? = some o := ⟨_, List.getElem?_eq_getElem hj⟩
        obtain ⟨_, _, hlt, _, _⟩ := hslot j o hoj
        have := ready_of hoj hu (fun k hk => by
          have hkj := hlt k hk
          rw [getD_any false true (by rw [hm.size]; omega)]
          exact ih k hkj (by omega))
        rw [hr] at this
        cases this
  intro fuel
  induction fuel with
  | zero =>
    intro x listed t w hm hc
    have hall : ∀ j, j < l.length → listed.getD j true = true := by
      intro j hj
      have hjs : j < listed.size := by rw [hm.size]; exact hj
      have h0 : false ∉ listed.toList := List.count_eq_zero.1 hc
      cases hu : listed.getD j true with
      | true => rfl
      | false =>
        have : listed.toList[j] = false := by simpa [Array.getD, hjs] using hu
        exact absurd (this ▸ List.getElem_mem _) h0
    refine ⟨?_, hfin x listed t w hm hall⟩
    cases hr : Region.ready .any l.toArray listed with
    | nil => rfl
    | cons i r =>
      obtain ⟨o, hoi, hu, _⟩ := ready_mem (l := l) (listed := listed) (i := i) (by rw [hr]; simp)
      rw [hall i (List.getElem?_eq_some_iff.1 hoi).1] at hu
      cases hu
  | succ fuel ih =>
    intro x listed t w hm hc
    refine ⟨fun hr => hfin x listed t w hm (hnil x listed t w hm hr), fun i hi => ?_⟩
    obtain ⟨o, hoi, hu, hbk⟩ := ready_mem hi
    have hil : i < l.length := (List.getElem?_eq_some_iff.1 hoi).1
    have his : i < listed.size := by rw [hm.size]; exact hil
    obtain ⟨hdst, hbf, hbl, hsel, hlook⟩ := hslot i o hoi
    have hbk' : ∀ k ∈ beforeOf o, k < l.length ∧ listed.getD k true = true := fun k hk => by
      have := hbl k hk
      exact ⟨by omega, by rw [getD_any true false (by rw [hm.size]; omega)]; exact hbk k hk⟩
    have hob := ho.get (Bs := Bs) hB i o hoi
    rw [Nat.zero_add] at hob
    have h1 := (hob w (hm.wait i hil hu)).use x (fun j hj => (hm.here j (hbk' j (hbf j hj)).1 (hbk' j (hbf j hj)).2).2)
    have hsame : ∀ d ∈ o.looksAt l.toArray, t[d]? = ((Bs.getD i []).foldl (fun t j => t.setIfInBounds (D.getD j 0) (x j)) t0)[d]? := by
      intro d hd
      by_cases hx : ∃ j, j < l.length ∧ D.getD j 0 = d ∧ j ∈ Bs.getD i []
      · obtain ⟨j, hj, rfl, hjb⟩ := hx
        by_cases hin : D.getD j 0 < t0.size
        · rw [(hm.here j hj (hbk' j (hbf j hjb)).2).1 hin, fold_at x _ _ hjb (fun k hk e => hapart k j (hbk' k (hbf k hk)).1 hj e) hin]
        · have hin' : t0.size ≤ D.getD j 0 := Nat.le_of_not_lt hin
          have e1 : ((Bs.getD i []).foldl (fun t j => t.setIfInBounds (D.getD j 0) (x j)) t0).size ≤ D.getD j 0 := by rw [fold_size]; omega
          have e2 : t.size ≤ D.getD j 0 := by rw [hm.tsize]; omega
          rw [Array.getElem?_eq_none e1, Array.getElem?_eq_none e2]
      · rw [fold_other x _ _ (fun j hj e => hx ⟨j, (hbk' j (hbf j hj)).1, e, hj⟩)]
        refine hm.other d fun j hj hjl e => ?_
        obtain ⟨oj, hoj⟩ : ∃ o, l[j]? = some o := ⟨_, List.getElem?_eq_getElem hj⟩
        rcases hlook d hd j oj hoj e with h | h
        · exact hx ⟨j, hj, e, h⟩
        · have := hm.shut j oj hoj hjl i h
          rw [hu] at this
          cases this
    have hnext : ∀ v w', Gs i w w' → F i v w' → wpAny P .any l.toArray Q fuel (listed.setIfInBounds i true) ⟨t.setIfInBounds (D.getD i 0) v, ds⟩ w' := by
      intro v w' hg hf
      refine ih (fun j => if j = i then v else x j) _ _ _ ⟨by simp [hm.size], by simp [hm.tsize], fun j hj hl => ?_, fun j hj hl => ?_, ?_, fun d hd => ?_, fun j oj hoj hl k hk => ?_⟩ (by have := count_set his hu; omega)
      · rw [getD_set his] at hl
        by_cases hji : i = j
        · subst hji
          refine ⟨fun hlt => ?_, by rw [if_pos rfl]; exact hf⟩
          rw [Array.getElem?_setIfInBounds_self, if_pos (by rw [hm.tsize]; exact hlt), if_pos rfl]
        · rw [if_neg hji] at hl
          obtain ⟨h2, h3⟩ := hm.here j hj hl
          rw [Array.getElem?_setIfInBounds_ne (fun e => hji (hapart i j hil hj e)), if_neg (fun e => hji e.symm)]
          refine ⟨h2, hF j i _ _ _ hj hil hji ?_ h3 hg⟩
          cases hw : waits l f j i with
          | false => rfl
          | true =>
            have := waits_listed hm.shut f j i hw hl
            rw [hu] at this
            cases this
      · rw [getD_set his] at hl
        by_cases hji : i = j
        · rw [if_pos hji] at hl; cases hl
        · rw [if_neg hji] at hl
          refine hI j i _ _ (by omega) hil hji ?_ (hm.wait j hj hl) hg
          cases hw : waits l f i j with
          | false => rfl
          | true =>
            exfalso
            have hset : ∀ q p, l[q]? = some p → (listed.setIfInBounds i true).getD q true = true → ∀ k ∈ beforeOf p, (listed.setIfInBounds i true).getD k true = true := by
              intro q p hq hlq k hk
              rw [getD_set his] at hlq ⊢
              by_cases hki : i = k
              · rw [if_pos hki]
              · rw [if_neg hki]
                by_cases hqi : i = q
                · subst hqi
                  obtain rfl : o = p := by rw [hoi] at hq; exact Option.some.inj hq
                  exact (hbk' k hk).2
                · rw [if_neg hqi] at hlq
                  exact hm.shut q p hq hlq k hk
            have := waits_listed hset f i j hw (by rw [getD_set his, if_pos rfl])
            rw [getD_set his, if_neg hji, hl] at this
            cases this
      · refine hI l.length i _ _ (Nat.le_refl _) hil (by omega) ?_ hm.fin hg
        cases hw : waits l f i l.length with
        | false => rfl
        | true =>
          exfalso
          have : ∀ (f q : Nat), waits l f q l.length = true → False := by
            intro f
            induction f with
            | zero => intro q h; simp [waits] at h
            | succ f ihf =>
              intro q h
              unfold waits at h
              split at h
              · cases h
              · rename_i p hp
                obtain ⟨k, hk, hk2⟩ := List.any_eq_true.1 h
                rw [Bool.or_eq_true] at hk2
                rcases hk2 with e | e
                · have := (hslot q p hp).2.2.1 k hk
                  have hq : q < l.length := (List.getElem?_eq_some_iff.1 hp).1
                  rw [beq_iff_eq.1 e] at this
                  omega
                · exact ihf k e
          exact this f i hw
      · have hdi : D.getD i 0 ≠ d := hd i hil (by rw [getD_set his, if_pos rfl])
        rw [Array.getElem?_setIfInBounds_ne hdi]
        exact hm.other d fun j hj hl => hd j hj (by rw [getD_set his]; split <;> simp [hl])
      · rw [getD_set his] at hl ⊢
        by_cases hki : i = k
        · rw [if_pos hki]
        · rw [if_neg hki]
          by_cases hji : i = j
          · subst hji
            obtain rfl : o = oj := by rw [hoi] at hoj; exact Option.some.inj hoj
            exact (hbk' k hk).2
          · rw [if_neg hji] at hl
            exact hm.shut j oj hoj hl k hk
    have hw := wanted_same (o := o) hsame
    unfold wpOp
    rw [show l.toArray[i]? = some o by simpa using hoi]
    show if Region.wanted o (yielded l.toArray t) = true then _ else _
    rw [hw]
    split
    · rename_i hwt
      replace h1 := h1.1 hwt
      refine .inl ?_
      exact wp_same2 (R := fun v w' => Gs i w w' ∧ F i v w') (by rw [fold_size, hm.tsize]) (by rw [fold_size]; exact hdst) (exec_same hsel hsame) h1 (fun v w' hr => hnext v w' hr.1 hr.2)
    · rename_i hwt
      replace h1 := h1.2 (by simpa using hwt)
      have hn := hnext undef w h1.1 h1.2
      rcases hdst with ⟨hd1, _⟩ | ⟨hd1, hd2⟩
      · rw [hd1]; exact hn
      · rw [hd1]
        have e2 : t.setIfInBounds (D.getD i 0) undef = t := Array.setIfInBounds_eq_of_size_le (by rw [hm.tsize]; exact hd2)
        rw [e2] at hn
        exact hn
/-- The ways of the operations that write; all others keep what was there. -/
def pickG : List (Nat × (World → World → Prop)) → Nat → World → World → Prop
  | [], _ => Kept
  | (s, G) :: r, j => if j = s then G else pickG r j
def pickI : List (Nat × (World → Prop)) → Nat → World → Prop
  | [], _, _ => True
  | (s, p) :: r, i, w => if i = s then p w else pickI r i w
/-- What is left by each operation bears a writing operation, or the operation comes behind it. -/
def AllBear (l : List Oper) (f : Nat) (s : Nat) (G : World → World → Prop) : List (Value → World → Prop) → Nat → Prop
  | [], _ => True
  | p :: r, i => (Stays G p ∨ waits l f i s = true ∨ i = s) ∧ AllBear l f s G r (i + 1)
def BearAll (l : List Oper) (f : Nat) (L : List (Value → World → Prop)) : List (Nat × (World → World → Prop)) → Prop
  | [] => True
  | (s, G) :: r => AllBear l f s G L 0 ∧ BearAll l f L r
def StaysI (G : World → World → Prop) (p : World → Prop) : Prop := ∀ w w', p w → G w w' → p w'
def AllBearI (l : List Oper) (f : Nat) (s : Nat) (G : World → World → Prop) : List (Nat × (World → Prop)) → Prop
  | [] => True
  | (i, p) :: r => (StaysI G p ∨ waits l f s i = true ∨ s = i) ∧ AllBearI l f s G r
def BearAllI (l : List Oper) (f : Nat) (L : List (Nat × (World → Prop))) : List (Nat × (World → World → Prop)) → Prop
  | [] => True
  | (s, G) :: r => AllBearI l f s G L ∧ BearAllI l f L r
def AllKeepI : List (Nat × (World → Prop)) → Prop
  | [] => True
  | (_, p) :: r => StaysI Kept p ∧ AllKeepI r
theorem AllBear.get {f s : Nat} {G : World → World → Prop} : ∀ {L : List (Value → World → Prop)} {k : Nat}, AllBear l f s G L k → ∀ i v w w', s ≠ k + i → waits l f (k + i) s = false → pickF L i v w → G w w' → pickF L i v w'
  | [], _, _, _, _, _, _, _, _, _, _ => by simp [pickF]
  | p :: r, k, h, 0, v, w, w', hs, hw, hp, hg => by
    rcases h.1 with h1 | h1 | h1
    · exact h1 v w w' hp hg
    · rw [Nat.add_zero] at hw; rw [hw] at h1; cases h1
    · exact absurd h1.symm hs
  | p :: r, k, h, i + 1, v, w, w', hs, hw, hp, hg =>
    AllBear.get (L := r) (k := k + 1) h.2 i v w w' (by omega) (by rw [show k + 1 + i = k + (i + 1) by omega]; exact hw) hp hg
theorem AllBearI.get {f s : Nat} {G : World → World → Prop} : ∀ {L : List (Nat × (World → Prop))}, AllBearI l f s G L → ∀ i w w', s ≠ i → waits l f s i = false → pickI L i w → G w w' → pickI L i w'
  | [], _, _, _, _, _, _, _, _ => trivial
  | (k, p) :: r, h, i, w, w', hs, hw, hp, hg => by
    unfold pickI at hp ⊢
    by_cases e : i = k
    · rw [if_pos e] at hp ⊢
      rcases h.1 with h1 | h1 | h1
      · exact h1 w w' hp hg
      · rw [← e, hw] at h1; cases h1
      · exact absurd (h1.trans e.symm) hs
    · rw [if_neg e] at hp ⊢
      exact AllBearI.get (L := r) h.2 i w w' hs hw hp hg
theorem keepI_get : ∀ {L : List (Nat × (World → Prop))}, AllKeepI L → ∀ i w w', pickI L i w → Kept w w' → pickI L i w'
  | [], _, _, _, _, _, _ => trivial
  | (k, p) :: r, h, i, w, w', hp, hg => by
    unfold pickI at hp ⊢
    by_cases e : i = k
    · rw [if_pos e] at hp ⊢; exact h.1 w w' hp hg
    · rw [if_neg e] at hp ⊢; exact keepI_get (L := r) h.2 i w w' hp hg
theorem bear_get {f : Nat} {L : List (Value → World → Prop)} (hk : AllStay Kept L) : ∀ {S : List (Nat × (World → World → Prop))}, BearAll l f L S → ∀ i j v w w', j ≠ i → waits l f i j = false → pickF L i v w → pickG S j w w' → pickF L i v w'
  | [], _, i, _, v, w, w', _, _, hp, hg => pick_stays hk i v w w' hp hg
  | (s, G) :: r, h, i, j, v, w, w', hne, hw, hp, hg => by
    unfold pickG at hg
    by_cases e : j = s
    · rw [if_pos e] at hg
      subst e
      have := AllBear.get h.1 i v w w' (by rw [Nat.zero_add]; exact hne) (by rw [Nat.zero_add]; exact hw) hp hg
      exact this
    · rw [if_neg e] at hg
      exact bear_get hk (S := r) h.2 i j v w w' hne hw hp hg
theorem bearI_get {f : Nat} {L : List (Nat × (World → Prop))} (hk : AllKeepI L) : ∀ {S : List (Nat × (World → World → Prop))}, BearAllI l f L S → ∀ i j w w', j ≠ i → waits l f j i = false → pickI L i w → pickG S j w w' → pickI L i w'
  | [], _, i, _, w, w', _, _, hp, hg => keepI_get hk i w w' hp hg
  | (s, G) :: r, h, i, j, w, w', hne, hw, hp, hg => by
    unfold pickG at hg
    by_cases e : j = s
    · rw [if_pos e] at hg
      subst e
      exact AllBearI.get h.1 i w w' hne hw hp hg
    · rw [if_neg e] at hg
      exact bearI_get hk (S := r) h.2 i j w w' hne hw hp hg
def HoldI (w : World) : List (Nat × (World → Prop)) → Prop
  | [] => True
  | (_, p) :: r => p w ∧ HoldI w r
theorem hold_get {w : World} : ∀ {L : List (Nat × (World → Prop))}, HoldI w L → ∀ i, pickI L i w
  | [], _, _ => trivial
  | (k, p) :: r, h, i => by
    unfold pickI
    by_cases e : i = k
    · rw [if_pos e]; exact h.1
    · rw [if_neg e]; exact hold_get (L := r) h.2 i
theorem reg_order {Q : Exit → Act → World → Prop} {id : Nat} {w : World} (L : List (Value → World → Prop)) (S : List (Nat × (World → World → Prop))) (IL : List (Nat × (World → Prop))) (D : List Tmp) (Bs : List (List Nat)) (Ns : List Nat) (f : Nat) (hm : P.follows .mixedOrders = true)
    (hLk : AllStay Kept L) (hLS : BearAll l f L S) (hIk : AllKeepI IL) (hIS : BearAllI l f IL S) (h0 : HoldI w.drew IL)
    (m : Nat) (hsz : t0.size = m) (hok : slotsOk2 l D Bs m = true) (hap : slotsApart D l.length = true) (hB : Bs.length = l.length) (hN : List.range l.length = Ns) (n : Nat) (hn : l.length = n) (ho : Obls2 P (pickG S) (pickI IL) (pickF L) D ds l t0 l 0 Bs)
    (hQ : ∀ w', pickI IL n w' → Given (pickF L) D w' t0 Ns fun t => Q .normal ⟨t, ds⟩ w') : (Code.region id l.toArray true).wp P Q ⟨t0, ds⟩ w := by
  subst hsz
  subst hN
  subst hn
  refine wp_region_any hm (reg_mid2 f (fun i j v w w' _ _ hne hw hp hg => bear_get hLk hLS i j v w w' hne hw hp hg) (fun i j w w' _ _ hne hw hp hg => bearI_get hIk hIS i j w w' hne hw hp hg) hok hap hB ho hQ _ (fun _ => undef) _ _ _ ⟨by simp, rfl, fun j hj hl => ?_, fun j hj _ => hold_get h0 j, hold_get h0 _, fun d _ => rfl, fun j oj hoj hl => ?_⟩ (by simp))
  · simp [Array.getD, hj] at hl
  · simp [Array.getD, (List.getElem?_eq_some_iff.1 hoj).1] at hl
theorem turn2_on {Gs : Nat → World → World → Prop} {o : Oper} {i : Nat} {t : Array Value} {w : World} (hc : Region.wanted o (yielded l.toArray t) = true)
    (h : ∀ K : Act → World → Prop, (∀ a' w', (a'.defers = ds ∧ Gs i w w' ∧ F i (a'.tmps.getD (D.getD i 0) undef) w') → K a' w') → Oper.wp P o ⟨t, ds⟩ w K (fun _ _ _ => False)) :
    Turn2 P Gs F D ds l w o i t := ⟨fun _ => h _ (fun _ _ h => h), fun h' => by rw [hc] at h'; cases h'⟩
theorem turn2_off {Gs : Nat → World → World → Prop} {o : Oper} {i : Nat} {t : Array Value} {w : World} (hc : Region.wanted o (yielded l.toArray t) = false) (h1 : Gs i w w) (h : F i undef w) : Turn2 P Gs F D ds l w o i t :=
  ⟨fun h' => absurd (hc.symm.trans h') (by simp), fun _ => ⟨h1, h⟩⟩
end
end Go.Proofs.Ytcbnebcooiagmaa
namespace Go.Proofs.Ytcbnebcooiagmaa
open Go.RowKit
/-- Block h is one cell of type T that holds the slice v; the slice is a row from block h + 1 on. -/
structure VarAt (k : IntKind) (T e : TypeId) (w : World) (h : Nat) (v : Value) (l : List Int) : Prop where
  row : w.heap[h]? = some (.cells #[v] T (0, 0))
  own : Owns k e w (h + 1) v l
section
variable {k : IntKind} {T e : TypeId} {w w' : World} {h : Nat} {v : Value} {l : List Int}
theorem VarAt.lt (o : VarAt k T e w h v l) : h < w.heap.size := (Array.getElem?_eq_some_iff.1 o.row).1
theorem VarAt.below (o : VarAt k T e w h v l) (hb : Below w.heap.size w w') : VarAt k T e w' h v l :=
  ⟨by rw [hb.block h o.lt]; exact o.row, o.own.below hb⟩
theorem row_cell (o : w.heap[h]? = some (.cells #[v] T (0, 0))) : w.cell? ⟨h, 0, none⟩ = some v ∧ w.frozen? ⟨h, 0, none⟩ = false :=
  ⟨by rw [cell_of_row w _ _ _ _ _ o]; rfl, frozen_of_row w _ _ _ _ o⟩
theorem store_grown (w : World) (h : Nat) (x : Value) : w.grownBy (w.setCell ⟨h, 0, none⟩ x) (some h) :=
  ⟨rfl, rfl, rfl, by simp, fun k _ hk => heap_setCell_other w ⟨h, 0, none⟩ k x (fun e => hk (by simp [e]))⟩
theorem row_keep {c : Obj} (o : w.heap[h]? = some c) (b : Below w.heap.size w w') : w'.heap[h]? = some c := by
  rw [b.block h (Array.getElem?_eq_some_iff.1 o).1]; exact o
/-- The new slice is laid in the variable. -/
theorem VarAt.store {x : Value} (o : w.heap[h]? = some (.cells #[x] T (0, 0))) (own : Owns k e w (h + 1) v l) : VarAt k T e (w.setCell ⟨h, 0, none⟩ v) h v l :=
  ⟨heap_setCell_same _ _ _ _ _ _ o, own.grown (store_grown w h v) (fun g hg e => by injection e with e; have := (own.at_base g hg).1; omega)⟩
theorem grown_row {x : Value} {row : Option Nat} (o : w.heap[h]? = some (.cells #[x] T (0, 0))) (g : w.grownBy w' row) (hr : row ≠ some h) : w'.heap[h]? = some (.cells #[x] T (0, 0)) := by
  rw [g.block h (Array.getElem?_eq_some_iff.1 o).1 (fun e => hr e.symm)]; exact o
theorem room_ne (own : Owns k e w (h + 1) v l) : room v ≠ some h := fun e => by have := (own.at_base h e).1; omega
/-- From w0 to w nothing that was there has turned but block h and one row. -/
structure Spared (h : Nat) (row : Option Nat) (w0 w : World) : Prop where
  os : w.os = w0.os
  tape : w.tape = w0.tape
  output : w.output = w0.output
  size : w0.heap.size ≤ w.heap.size
  block : ∀ g, g < w0.heap.size → g ≠ h → some g ≠ row → w.heap[g]? = w0.heap[g]?
theorem Spared.refl (h : Nat) (row : Option Nat) (w : World) : Spared h row w w := ⟨rfl, rfl, rfl, Nat.le_refl _, fun _ _ _ _ => rfl⟩
theorem Spared.kept {row : Option Nat} {w0 : World} (s : Spared h row w0 w) (b : Below w.heap.size w w') : Spared h row w0 w' :=
  ⟨b.os.trans s.os, b.tape.trans s.tape, b.output.trans s.output, Nat.le_trans s.size b.size, fun g h1 h2 h3 => by rw [b.block g (Nat.lt_of_lt_of_le h1 s.size)]; exact s.block g h1 h2 h3⟩
theorem Spared.row {row : Option Nat} {w0 : World} (s : Spared h row w0 w) (b : w.grownBy w' row) : Spared h row w0 w' :=
  ⟨b.os.trans s.os, b.tape.trans s.tape, b.output.trans s.output, Nat.le_trans s.size b.size, fun g h1 h2 h3 => by rw [b.block g (Nat.lt_of_lt_of_le h1 s.size) h3]; exact s.block g h1 h2 h3⟩
theorem Spared.at {row : Option Nat} {w0 : World} (s : Spared h row w0 w) (b : w.grownBy w' (some h)) : Spared h row w0 w' :=
  ⟨b.os.trans s.os, b.tape.trans s.tape, b.output.trans s.output, Nat.le_trans s.size b.size, fun g h1 h2 h3 => by rw [b.block g (Nat.lt_of_lt_of_le h1 s.size) (fun e => by injection e with e; exact h2 e)]; exact s.block g h1 h2 h3⟩
theorem Spared.below {row : Option Nat} {w0 : World} (s : Spared h row w0 w) (hl : h ≤ w0.heap.size) (hr : ∀ q, row = some q → h ≤ q) : Below h w0 w :=
  ⟨s.os, s.tape, s.output, s.size, fun g hg => s.block g (by omega) (by omega) (fun e => by have := hr g e.symm; omega)⟩
/-- The new slice has its room where the old one had it, or in a new block. -/
def NewRoom (w0 : World) (v v' : Value) : Prop := room v' = room v ∨ ∀ g, room v' = some g → w0.heap.size ≤ g
theorem Spared.trans {w0 : World} {v v' : Value} (s : Spared h (room v) w0 w) (n : NewRoom w0 v v') (s2 : Spared h (room v') w w') : Spared h (room v) w0 w' :=
  ⟨s2.os.trans s.os, s2.tape.trans s.tape, s2.output.trans s.output, Nat.le_trans s.size s2.size, fun g h1 h2 h3 => by
    rw [s2.block g (Nat.lt_of_lt_of_le h1 s.size) h2 (fun e => by
      rcases n with n | n
      · exact h3 (e.trans n)
      · have := n g e.symm; omega)]
    exact s.block g h1 h2 h3⟩
theorem NewRoom.trans {w0 : World} {v v' v'' : Value} (n : NewRoom w0 v v') (hs : w0.heap.size ≤ w.heap.size) (n2 : NewRoom w v' v'') : NewRoom w0 v v'' := by
  rcases n2 with e | e
  · rcases n with n | n
    · exact .inl (e.trans n)
    · exact .inr (fun g hg => n g (e ▸ hg))
  · exact .inr (fun g hg => Nat.le_trans hs (e g hg))
theorem RdAt.spared {kd : IntKind} {row : Option Nat} {w0 : World} {a : Option Addr} {n c : Nat} {b : List Int} (r : RdAt kd w0 a n c b) (s : Spared h row w0 w) (hne : ∀ x, a = some x → x.block ≠ h ∧ some x.block ≠ row) : RdAt kd w a n c b :=
  ⟨r.len, r.cap, r.max, fun i hi => by
    obtain ⟨g, o, e, hc⟩ := r.cell i hi
    obtain ⟨h1, h2⟩ := hne _ e
    refine ⟨g, o, e, ?_⟩
    have := s.block g (block_lt_of_cell hc) h1 h2
    simp only [World.cell?] at hc ⊢
    rw [this]; exact hc, r.wf, r.void⟩
/-- The same where nothing is asked of a slice without elements. -/
theorem RdAt.sparedN {kd : IntKind} {row : Option Nat} {w0 : World} {a : Option Addr} {n c : Nat} {b : List Int} (r : RdAt kd w0 a n c b) (s : Spared h row w0 w) (hne : ∀ x, a = some x → 0 < n → x.block ≠ h ∧ some x.block ≠ row) : RdAt kd w a n c b :=
  ⟨r.len, r.cap, r.max, fun i hi => by
    obtain ⟨g, o, e, hc⟩ := r.cell i hi
    obtain ⟨h1, h2⟩ := hne _ e (by omega)
    refine ⟨g, o, e, ?_⟩
    have := s.block g (block_lt_of_cell hc) h1 h2
    simp only [World.cell?] at hc ⊢
    rw [this]; exact hc, r.wf, r.void⟩
theorem RdAt.grownN {kd : IntKind} {row : Option Nat} {a : Option Addr} {n c : Nat} {b : List Int} (r : RdAt kd w a n c b) (hg : w.grownBy w' row) (hne : ∀ x, a = some x → 0 < n → some x.block ≠ row) : RdAt kd w' a n c b :=
  ⟨r.len, r.cap, r.max, fun i hi => by
    obtain ⟨g, o, e, hc⟩ := r.cell i hi
    exact ⟨g, o, e, hg.cell hc (show some g ≠ row from hne _ e (by omega))⟩, r.wf, r.void⟩
theorem RdAt.keptW {kd : IntKind} {a : Option Addr} {n c : Nat} {b : List Int} (r : RdAt kd w a n c b) (hk : Kept w.drew w') : RdAt kd w' a n c b :=
  RdAt.below (w := w.drew) ⟨r.len, r.cap, r.max, r.cell, r.wf, r.void⟩ hk
theorem Owns.keptD {base : Nat} (o : Owns k e w base v l) (hk : Kept w.drew w') : Owns k e w' base v l := Owns.below (w := w.drew) o hk
end
end Go.Proofs.Ytcbnebcooiagmaa
namespace Go.Proofs.Ytcbnebcooiagmaa
open Go.RowKit

section
variable {P : Program} {l : List Oper} {Q : Exit → Act → World → Prop}

/-- Which operations have come up: a number's bits. -/
def bitsA (n m : Nat) : Array Bool := ((List.range n).map fun i => m.testBit i).toArray

theorem get_of_drop {i : Nat} {o : Oper} {r : List Oper} (h : l.drop i = o :: r) : l.toArray[i]? = some o := by
  have h1 : (l.drop i)[0]? = some o := by rw [h]; rfl
  rw [List.getElem?_drop] at h1
  simpa using h1

/-- Operation i, which yields v in whatever world, is taken first. -/
theorem reg_take (i : Nat) {o : Oper} {r : List Oper} {d : Tmp} {v : Value} {fuel : Nat} {listed listed' : Array Bool} {t : Array Value} {ds : List Deferred} {w : World} (ho : l.drop i = o :: r) (hd : o.dst = some d) (hl : listed.setIfInBounds i true = listed')
    (hs : Region.noSelect l.toArray = true) (hf : Region.free .any l.toArray listed i = true) (hr : (Region.ready .any l.toArray listed).contains i = true)
    (hQ : ∀ c a w, Q (.panic c) (a.put o.dst v) w → Q (.panic c) a w) (hw : Region.wanted o (yielded l.toArray t) = true)
    (hy : ∀ w, (execOp (Act.mk t ds).eval o).run P w = .ok (.value v) w)
    (h : wpAny P .any l.toArray Q fuel listed' ⟨t.setIfInBounds d v, ds⟩ w) : wpAny P .any l.toArray Q (fuel + 1) listed ⟨t, ds⟩ w := by
  refine wpAny_take (get_of_drop ho) hs hf hr hQ (.inl ⟨hw, hy⟩) ?_
  rw [hl, hd]
  exact h
/-- Its guard says no: it is passed over. -/
theorem reg_pass (i : Nat) {o : Oper} {r : List Oper} {d : Tmp} {fuel : Nat} {listed listed' : Array Bool} {t : Array Value} {ds : List Deferred} {w : World} (ho : l.drop i = o :: r) (hd : o.dst = some d) (hl : listed.setIfInBounds i true = listed')
    (hs : Region.noSelect l.toArray = true) (hf : Region.free .any l.toArray listed i = true) (hr : (Region.ready .any l.toArray listed).contains i = true)
    (hQ : ∀ c a w, Q (.panic c) (a.put o.dst undef) w → Q (.panic c) a w) (hw : Region.wanted o (yielded l.toArray t) = false)
    (h : wpAny P .any l.toArray Q fuel listed' ⟨t.setIfInBounds d undef, ds⟩ w) : wpAny P .any l.toArray Q (fuel + 1) listed ⟨t, ds⟩ w := by
  refine wpAny_take (v := undef) (get_of_drop ho) hs hf hr hQ (.inr ⟨hw, rfl⟩) ?_
  rw [hl, hd]
  exact h

/-- What is to be shown of an operation that comes up: its run, and what follows. -/
def Comes1 (P : Program) (l : List Oper) (Q : Exit → Act → World → Prop) (fuel : Nat) (listed' : Array Bool) (o : Oper) (a : Act) (w : World) : Prop :=
  ∀ K : Act → World → Prop, (∀ a w, wpAny P .any l.toArray Q fuel listed' a w → K a w) → Oper.wp P o a w K Q

theorem reg_step {fuel i : Nat} {o : Oper} {r : List Oper} {listed listed' : Array Bool} {a : Act} {w : World} (ho : l.drop i = o :: r) (hl : listed.setIfInBounds i true = listed') (hg : o.guard = none)
    (h : Comes1 P l Q fuel listed' o a w) : wpOp P l.toArray Q i (wpAny P .any l.toArray Q fuel (listed.setIfInBounds i true)) a w := by
  subst hl
  exact wpOp_step (get_of_drop ho) (fun K hK => by rw [if_pos (by simp [Region.wanted, hg])]; exact h K hK)

theorem reg_one (i1 : Nat) {o1 : Oper} {r1 : List Oper} {fuel : Nat} {listed m1 : Array Bool} {a : Act} {w : World} (ho1 : l.drop i1 = o1 :: r1) (hl1 : listed.setIfInBounds i1 true = m1) (hg1 : o1.guard = none)
    (hr : Region.ready .any l.toArray listed = [i1]) (h1 : Comes1 P l Q fuel m1 o1 a w) : wpAny P .any l.toArray Q (fuel + 1) listed a w :=
  wpAny_all hr (by simp) (fun i hi => by
    simp at hi; subst hi; exact reg_step ho1 hl1 hg1 h1)
theorem reg_two (i1 i2 : Nat) {o1 o2 : Oper} {r1 r2 : List Oper} {fuel : Nat} {listed m1 m2 : Array Bool} {a : Act} {w : World} (ho1 : l.drop i1 = o1 :: r1) (hl1 : listed.setIfInBounds i1 true = m1) (hg1 : o1.guard = none)
    (ho2 : l.drop i2 = o2 :: r2) (hl2 : listed.setIfInBounds i2 true = m2) (hg2 : o2.guard = none)
    (hr : Region.ready .any l.toArray listed = [i1, i2]) (h1 : Comes1 P l Q fuel m1 o1 a w) (h2 : Comes1 P l Q fuel m2 o2 a w) : wpAny P .any l.toArray Q (fuel + 1) listed a w :=
  wpAny_all hr (by simp) (fun i hi => by
    simp at hi
    rcases hi with hi | hi
    · subst hi; exact reg_step ho1 hl1 hg1 h1
    · subst hi; exact reg_step ho2 hl2 hg2 h2)
theorem reg_three (i1 i2 i3 : Nat) {o1 o2 o3 : Oper} {r1 r2 r3 : List Oper} {fuel : Nat} {listed m1 m2 m3 : Array Bool} {a : Act} {w : World} (ho1 : l.drop i1 = o1 :: r1) (hl1 : listed.setIfInBounds i1 true = m1) (hg1 : o1.guard = none)
    (ho2 : l.drop i2 = o2 :: r2) (hl2 : listed.setIfInBounds i2 true = m2) (hg2 : o2.guard = none)
    (ho3 : l.drop i3 = o3 :: r3) (hl3 : listed.setIfInBounds i3 true = m3) (hg3 : o3.guard = none)
    (hr : Region.ready .any l.toArray listed = [i1, i2, i3]) (h1 : Comes1 P l Q fuel m1 o1 a w) (h2 : Comes1 P l Q fuel m2 o2 a w) (h3 : Comes1 P l Q fuel m3 o3 a w) : wpAny P .any l.toArray Q (fuel + 1) listed a w :=
  wpAny_all hr (by simp) (fun i hi => by
    simp at hi
    rcases hi with hi | hi | hi
    · subst hi; exact reg_step ho1 hl1 hg1 h1
    · subst hi; exact reg_step ho2 hl2 hg2 h2
    · subst hi; exact reg_step ho3 hl3 hg3 h3)

theorem reg_four (i1 i2 i3 i4 : Nat) {o1 o2 o3 o4 : Oper} {r1 r2 r3 r4 : List Oper} {fuel : Nat} {listed m1 m2 m3 m4 : Array Bool} {a : Act} {w : World} (ho1 : l.drop i1 = o1 :: r1) (hl1 : listed.setIfInBounds i1 true = m1) (hg1 : o1.guard = none)
    (ho2 : l.drop i2 = o2 :: r2) (hl2 : listed.setIfInBounds i2 true = m2) (hg2 : o2.guard = none)
    (ho3 : l.drop i3 = o3 :: r3) (hl3 : listed.setIfInBounds i3 true = m3) (hg3 : o3.guard = none)
    (ho4 : l.drop i4 = o4 :: r4) (hl4 : listed.setIfInBounds i4 true = m4) (hg4 : o4.guard = none)
    (hr : Region.ready .any l.toArray listed = [i1, i2, i3, i4]) (h1 : Comes1 P l Q fuel m1 o1 a w) (h2 : Comes1 P l Q fuel m2 o2 a w) (h3 : Comes1 P l Q fuel m3 o3 a w) (h4 : Comes1 P l Q fuel m4 o4 a w) : wpAny P .any l.toArray Q (fuel + 1) listed a w :=
  wpAny_all hr (by simp) (fun i hi => by
    simp at hi
    rcases hi with hi | hi | hi | hi
    · subst hi; exact reg_step ho1 hl1 hg1 h1
    · subst hi; exact reg_step ho2 hl2 hg2 h2
    · subst hi; exact reg_step ho3 hl3 hg3 h3
    · subst hi; exact reg_step ho4 hl4 hg4 h4)

theorem reg_start {id : Nat} {a : Act} {w : World} (hm : P.follows .mixedOrders = true) (n : Nat) (hn : l.length = n) (h0 : Array.replicate n false = bitsA n 0) (h : wpAny P .any l.toArray Q n (bitsA n 0) a w.drew) : (Code.region id l.toArray true).wp P Q a w := by
  subst hn
  refine wp_region_any hm ?_
  rw [List.size_toArray, h0]
  exact h
theorem reg_done {listed : Array Bool} {a : Act} {w : World} (hr : Region.ready .any l.toArray listed = []) (h : Q .normal a w) : wpAny P .any l.toArray Q 0 listed a w := wpAny_done hr h 0
end

section
variable {P : Program} {k : IntKind} {T e bytes : Nat} {o : Oper} {t : Array Value} {ds : List Deferred} {Q : Exit → Act → World → Prop} {K : Act → World → Prop}
theorem wp_of_run {v : Value} {w w' : World} (d : Tmp) (hd : o.dst = some d) (hrun : (execOp (Act.mk t ds).eval o).run P w = .ok (.value v) w') (h : K ⟨t.setIfInBounds d v, ds⟩ w') : Oper.wp P o ⟨t, ds⟩ w K Q := by
  unfold Oper.wp
  rw [hrun]
  show K ((Act.mk t ds).put o.dst v) w'
  rw [hd]
  exact h
/-- A slice literal without elements. -/
theorem wp_empty (d : Tmp) (hd : o.dst = some d) (e : Nat) (w : World) (hrun : (execOp (Act.mk t ds).eval o).run P w = .ok (.value (.slice (some ⟨w.heap.size, 0, none⟩) 0 0)) (w.alloc (.cells #[] e)))
    (h : K ⟨t.setIfInBounds d (.slice (some ⟨w.heap.size, 0, none⟩) 0 0), ds⟩ (w.alloc (.cells #[] e))) : Oper.wp P o ⟨t, ds⟩ w K Q := wp_of_run d hd hrun h
theorem wp_app_all (d : Tmp) (hd : o.dst = some d) (hT : P.underlying T = some (.slice e)) (hI : elemInfo P e k bytes) (hby : bytes ≤ 8) (s x : Operand)
    (ho : o.op = .call { callee := .builtin .append, args := #[s, x], argTypes := #[T, T] }) (w : World) (base : Nat) (v : Value) (l : List Int) (hs : (Act.mk t ds).eval s = v) (hown : Owns k e w base v l)
    (b : Option Addr) (n c : Nat) (lb : List Int) (hx : (Act.mk t ds).eval x = .slice b n c) (hrd : RdAt k w b n c lb) (hlen : l.length + n ≤ 1099511627776) (hbase : base ≤ w.heap.size)
    (h : ∀ v' w', Owns k e w' base v' (l ++ lb) → Grows w v w' v' → K ⟨t.setIfInBounds d v', ds⟩ w') :
    Oper.wp P o ⟨t, ds⟩ w K Q := by
  obtain ⟨v', w', hr, h1, h2⟩ := run_app_all (P := P) hT hI hby o.type w base v l hown b n c lb hrd hlen hbase
  refine wp_of_run d hd (v := v') (w' := w') ?_ (h v' w' h1 h2)
  unfold execOp
  simp only [ho, resolve, invoke, builtin, Sem.run_bind, Sem.run_pure, Result.andThen_ok, List.map_toArray, List.map_cons, List.map_nil, hs, hx, hr]
theorem wp_app_one (d : Tmp) (hd : o.dst = some d) (hT : P.underlying T = some (.slice e)) (hI : elemInfo P e k bytes) (hby : bytes ≤ 8) (s x : Operand)
    (ho : o.op = .call { callee := .builtin .append, args := #[s, x], argTypes := #[T, T] }) (w : World) (base : Nat) (v : Value) (l : List Int) (hs : (Act.mk t ds).eval s = v) (hown : Owns k e w base v l)
    (q : Int) (hx : (Act.mk t ds).eval x = .slice (some ⟨w.heap.size, 0, none⟩) 1 1) (hq : (Lit.int k q).wf = true) (hlen : l.length ≤ 1099511627775) (hbase : base ≤ w.heap.size)
    (h : ∀ v' w', Owns k e w' base v' (l ++ [q]) → Grows w v w' v' → K ⟨t.setIfInBounds d v', ds⟩ w') :
    Oper.wp P o ⟨t, ds⟩ (w.alloc (.cells #[.int k q] e)) K Q := by
  obtain ⟨v', w', hr, h1, h2⟩ := run_app_one (P := P) hT hI hby o.type w base v l hown q hq hlen hbase
  refine wp_of_run d hd (v := v') (w' := w') ?_ (h v' w' h1 h2)
  unfold execOp
  simp only [ho, resolve, invoke, builtin, Sem.run_bind, Sem.run_pure, Result.andThen_ok, List.map_toArray, List.map_cons, List.map_nil, hs, hx, hr]
theorem wp_conv {src dst : TypeId} (d : Tmp) (hd : o.dst = some d) (hs : P.underlying src = some (.slice e)) (he : P.underlying e = some (.int .u8)) (hdt : P.underlying dst = some .string) (x : Operand) (ho : o.op = .convert src dst x)
    {w : World} {a : Option Addr} {n c : Nat} {l : List Int} (hx : (Act.mk t ds).eval x = .slice a n c) (hrd : RdAt .u8 w a n c l)
    (h : K ⟨t.setIfInBounds d (.string (strOfNums l)), ds⟩ w) : Oper.wp P o ⟨t, ds⟩ w K Q := by
  have hr := conv_rd hs he hdt hrd
  refine wp_of_run d hd ?_ h
  unfold execOp
  simp only [ho, hx]
  simp [hr, Result.andThen]
end
end Go.Proofs.Ytcbnebcooiagmaa
