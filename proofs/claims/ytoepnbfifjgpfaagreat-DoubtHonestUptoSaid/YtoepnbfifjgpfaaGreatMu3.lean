/- Regions that draw their order: one obligation an operation, whatever the order. No program in sight. Regions that draw their order, some of whose operations write: each operation has its own way to turn the world; what an operation needs and what it leaves need only bear the operations that can come between. No program in sight. A variable that holds a row of numbers of the call's own. No program in sight. Regions in memory; Pages, Find. region: prot, right, Find, Clone. -/
import Derived.Below
import Derived.ProofKit
import Derived.RegionTactic
import Derived.Test.YtoepnbfifjgpfaaGreatMu1
import Derived.Test.YtoepnbfifjgpfaaGreatProg
import Derived.Test.YtoepnbfifjgpfaaGreatMu2
import Derived.Lib.Hide
import Derived.Deep.QuietTactic
import Derived.BigQuiet
import Derived.WalkSpells
namespace Go.Proofs.YtoepnbfifjgpfaaGreat
set_option maxRecDepth 100000
open Go.RowKit

/-- Which operations an operation waits for. -/
def beforeOf (o:Oper):List Nat:=(o.after.toList.filter (Region.binds .any)).map (·.on)

section
variable (P:Program) (G:World→World→Prop) (F:Nat→Value→World→Prop) (D:List Tmp) (ds:List Deferred)

/-- The values of some operations, each as it may be, laid in their slots. -/
def Given (w:World):Array Value→List Nat→(Array Value→Prop)→Prop
 | t,[],k=>k t
 | t,j :: r,k=>∀ v,F j v w→Given w (t.setIfInBounds (D.getD j 0) v) r k
/-- What is to be shown of one operation. -/
def Turn (l:List Oper) (w:World) (o:Oper) (i:Nat) (t:Array Value):Prop:=
 (Region.wanted o (yielded l.toArray t)=true→Oper.wp P o ⟨t,ds⟩ w (fun a' w'=>a'.defers=ds∧G w w'∧F i (a'.tmps.getD (D.getD i 0) undef) w') (fun _ _ _=>False)) ∧
 (Region.wanted o (yielded l.toArray t)=false→F i undef w)
def Obl (l:List Oper) (w0:World) (t0:Array Value) (o:Oper) (i:Nat) (B:List Nat):Prop:=
 ∀ w,G w0 w→Given F D w t0 B fun t=>Turn P G F D ds l w o i t
def Obls (l:List Oper) (w0:World) (t0:Array Value):List Oper→Nat→List (List Nat)→Prop
 | o :: r,i,B :: Bs=>Obl P G F D ds l w0 t0 o i B∧Obls l w0 t0 r (i+1) Bs
 | _,_,_=>True
end

/-- The slots' facts that are read off the text alone. -/
def slotsOk (l:List Oper) (D:List Tmp) (Bs:List (List Nat)) (m:Nat):Bool:=
 (List.range l.length).all fun i=>match l[i]? with
  | none=>true
  | some o=>o.dst == some (D.getD i 0) && Nat.blt (D.getD i 0) m && (Bs.getD i []).all (fun j=>(beforeOf o).contains j) && (beforeOf o).all (fun j=>Nat.blt j i) &&
   (match o.op with | .select _ _=>false | _=>true) &&
   (o.looksAt l.toArray).all fun d=>(List.range l.length).all fun j=>D.getD j 0 != d || (Bs.getD i []).contains j || (match l[j]? with | some oj=>(beforeOf oj).contains i | none=>false)
def slotsApart (D:List Tmp) (n:Nat):Bool:=(List.range n).all fun i=>(List.range n).all fun j=>i == j || D.getD i 0 != D.getD j 0

section
variable {P:Program} {G:World→World→Prop} {F:Nat→Value→World→Prop} {D:List Tmp} {ds:List Deferred} {l:List Oper} {w0:World} {t0:Array Value}

theorem Obls.get {Bs:List (List Nat)}:∀ {r:List Oper} {k:Nat} {B:List (List Nat)},Obls P G F D ds l w0 t0 r k B→B.length=r.length→∀ i o,r[i]?=some o→Obl P G F D ds l w0 t0 o (k+i) (B.getD i [])
 | [],_,_,_,_,i,o,h=>by simp at h
 | o :: r,k,[],h,hl,_,_,_=>by simp at hl
 | o :: r,k,B :: Bs',h,hl,0,o',h'=>by
  simp at h'
  subst h'
  exact h.1
 | o :: r,k,B :: Bs',h,hl,i+1,o',h'=>by
  have:=Obls.get (Bs:=Bs) h.2 (by simpa using hl) i o' (by simpa using h')
  rw [show k+(i+1)=k+1+i from by omega]
  simpa using this

theorem Given.use {w:World} {k:Array Value→Prop} (x:Nat→Value):∀ {B:List Nat} {t:Array Value},Given F D w t B k→(∀ j ∈ B,F j (x j) w)→k (B.foldl (fun t j=>t.setIfInBounds (D.getD j 0) (x j)) t)
 | [],_,h,_=>h
 | j :: r,t,h,hf=>Given.use (B:=r) (t:=t.setIfInBounds (D.getD j 0) (x j)) x (h (x j) (hf j (by simp))) (fun i hi=>hf i (by simp [hi]))

theorem fold_size (x:Nat→Value):∀ (B:List Nat) (t:Array Value),(B.foldl (fun t j=>t.setIfInBounds (D.getD j 0) (x j)) t).size=t.size
 | [],_=>rfl
 | j :: r,t=>by rw [List.foldl_cons,fold_size x r];simp
theorem fold_other (x:Nat→Value) {d:Tmp}:∀ (B:List Nat) (t:Array Value),(∀ j ∈ B,D.getD j 0 ≠ d)→(B.foldl (fun t j=>t.setIfInBounds (D.getD j 0) (x j)) t)[d]?=t[d]?
 | [],_,_=>rfl
 | j :: r,t,h=>by
  rw [List.foldl_cons,fold_other x r _ (fun i hi=>h i (by simp [hi])),Array.getElem?_setIfInBounds_ne (h j (by simp))]
theorem fold_at (x:Nat→Value) {k:Nat}:∀ (B:List Nat) (t:Array Value),k ∈ B→(∀ j ∈ B,D.getD j 0=D.getD k 0→j=k)→D.getD k 0 < t.size→(B.foldl (fun t j=>t.setIfInBounds (D.getD j 0) (x j)) t)[D.getD k 0]?=some (x k)
 | [],_,h,_,_=>by cases h
 | j :: r,t,h,hu,hs=>by
  rw [List.foldl_cons]
  by_cases hk:k ∈ r
  ·exact fold_at x r _ hk (fun i hi=>hu i (by simp [hi])) (by simpa using hs)
  ·obtain rfl:k=j:=by
    rcases List.mem_cons.1 h with h | h
    ·exact h
    ·exact absurd h hk
   rw [fold_other x r _ (fun i hi e=>hk (hu i (by simp [hi]) e ▸ hi)),Array.getElem?_setIfInBounds_self]
   exact if_pos hs

theorem wanted_same {o:Oper} {ops:Array Oper} {t t':Array Value} (h:∀ d ∈ o.looksAt ops,t[d]?=t'[d]?):Region.wanted o (yielded ops t)=Region.wanted o (yielded ops t'):=by
 unfold Region.wanted
 cases hg:o.guard with
 | none=>rfl
 | some gw=>
  obtain ⟨g,want⟩:=gw
  have hy:yielded ops t g=yielded ops t' g:=by
   unfold yielded
   cases ht:(ops[g]?).bind (·.dst) with
   | none=>rfl
   | some d=>
    have:=h d (by simp [Oper.looksAt,hg,ht])
    simp only [Option.bind_some]
    rw [this]
  simp only [hy]
theorem exec_same {o:Oper} {ops:Array Oper} {t t':Array Value} (hs:∀ cs b,o.op ≠ .select cs b) (h:∀ d ∈ o.looksAt ops,t[d]?=t'[d]?):execOp (Act.mk t ds).eval o=execOp (Act.mk t' ds).eval o:=
 execOp_congr o hs fun x hx=>by
  cases x with
  | tmp d=>
   have:=h d (List.mem_append_left _ (List.mem_filterMap.2 ⟨.tmp d,by simpa using hx,rfl⟩))
   simp [Act.eval,Array.getD_eq_getD_getElem?,this]
  | _=>rfl

/-- What is shown over the slots that are looked at holds over all. -/
theorem wp_same {o:Oper} {t t':Array Value} {w:World} {d:Tmp} {Q:Exit→Act→World→Prop} {K:Act→World→Prop} {R:Value→World→Prop} (hd:o.dst=some d) (hdt:d < t'.size)
  (he:execOp (Act.mk t ds).eval o=execOp (Act.mk t' ds).eval o)
  (h:Oper.wp P o ⟨t',ds⟩ w (fun a' w'=>a'.defers=ds∧R (a'.tmps.getD d undef) w') (fun _ _ _=>False)) (hK:∀ v w',R v w'→K ⟨t.setIfInBounds d v,ds⟩ w') :
  Oper.wp P o ⟨t,ds⟩ w K Q:=by
 have hget:∀ v:Value,(t'.setIfInBounds d v).getD d undef=v:=fun v=>by
  simp [Array.getD_eq_getD_getElem?,hdt]
 unfold Oper.wp at *
 rw [he]
 generalize (execOp (Act.mk t' ds).eval o).run P w=r at *
 have hput:∀ v w',(((Act.mk t' ds).put o.dst v).defers=ds∧R (((Act.mk t' ds).put o.dst v).tmps.getD d undef) w')→K ((Act.mk t ds).put o.dst v) w':=by
  intro v w' ⟨_,hr⟩
  rw [hd] at hr ⊢
  simp only [Act.put,hget] at hr ⊢
  exact hK v w' hr
 cases r with
 | ok n w'=>
  cases n with
  | value v=>exact hput v w' h
  | skip=>exact hput undef w' h
  | enter f args => 
   refine Calls.mono h fun e w'' he'=>?_
   cases e with
   | returned v=>exact hput v w'' he'
   | panicked c=>exact he'.elim
   | outgrown=>obtain ⟨_,_,hf⟩:=he';exact hf.elim
  | row r args=>exact Rows.mono h (fun v w'' hr=>hput v w'' hr)
  | defer d'=>
   obtain ⟨hds,_⟩:=h
   rw [hd] at hds
   exact absurd hds (by simp [Act.put])
  | _=>exact h
 | halt x w'=>
  cases x with
  | panic v=>exact h.elim
  | _=>exact h

/-- How far a region is: what is laid in the slots, by whichever order. -/
structure Mid (l:List Oper) (G:World→World→Prop) (F:Nat→Value→World→Prop) (D:List Tmp) (n:Nat) (w0:World) (t0:Array Value) (x:Nat→Value) (listed:Array Bool) (t:Array Value) (w:World):Prop where
 size:listed.size=n
 went:G w0 w
 tsize:t.size=t0.size
 here:∀ j,j < n→listed.getD j true=true→t[D.getD j 0]?=some (x j)∧F j (x j) w
 other:∀ d,(∀ j,j < n→listed.getD j true=true→D.getD j 0 ≠ d)→t[d]?=t0[d]?
 shut:∀ j o,l[j]?=some o→listed.getD j true=true→∀ k ∈ beforeOf o,listed.getD k true=true

theorem count_set {listed:Array Bool} {i:Nat} (hi:i < listed.size) (h:listed.getD i true=false):(listed.setIfInBounds i true).toList.count false+1=listed.toList.count false:=by
 have h1:listed.toList[i]=false:=by simpa [Array.getD,hi] using h
 have hm:0 < listed.toList.count false:=List.count_pos_iff.2 (h1 ▸ List.getElem_mem _)
 rw [Array.toList_setIfInBounds,List.count_set (by simpa using hi)];rw [h1]
 show listed.toList.count false - 1+0+1=listed.toList.count false
 omega

theorem getD_set {listed:Array Bool} {i j:Nat} (hi:i < listed.size):(listed.setIfInBounds i true).getD j true=if i=j then true else listed.getD j true:=by
 simp only [Array.getD_eq_getD_getElem?]
 by_cases h:i=j
 ·subst h
  rw [Array.getElem?_setIfInBounds_self,if_pos hi,if_pos rfl];rfl
 ·rw [Array.getElem?_setIfInBounds_ne h,if_neg h]
theorem getD_any {listed:Array Bool} {j:Nat} (b c:Bool) (h:j < listed.size):listed.getD j b=listed.getD j c:=by simp [Array.getD,h]

/-- An operation whose turn has come waits for those alone that are listed. -/
theorem ready_mem {listed:Array Bool} {i:Nat} (h:i ∈ Region.ready .any l.toArray listed):∃ o,l[i]?=some o∧listed.getD i true=false∧∀ k ∈ beforeOf o,listed.getD k false=true:=by
 unfold Region.ready at h
 rw [List.mem_filter] at h
 obtain ⟨hi,hr⟩:=h
 rw [Bool.and_eq_true] at hr
 cases ho:l.toArray[i]? with
 | none=>rw [ho] at hr;simp at hr
 | some o=>
  rw [ho] at hr
  refine ⟨o,by simpa using ho,by simpa using hr.1,fun k hk=>?_⟩
  unfold beforeOf at hk
  obtain ⟨e,he,rfl⟩:=List.mem_map.1 hk
  obtain ⟨he1,he2⟩:=List.mem_filter.1 he
  have:=Array.all_eq_true_iff_forall_mem.1 (show o.after.all _=true from hr.2) e (by simpa using he1)
  simpa [he2] using this
theorem ready_of {listed:Array Bool} {i:Nat} {o:Oper} (ho:l[i]?=some o) (hu:listed.getD i true=false) (hb:∀ k ∈ beforeOf o,listed.getD k false=true):i ∈ Region.ready .any l.toArray listed:=by
 unfold Region.ready
 rw [List.mem_filter]
 have hi:i < l.length:=(List.getElem?_eq_some_iff.1 ho).1
 refine ⟨by simpa using hi,?_⟩
 rw [Bool.and_eq_true]
 refine ⟨by simp [hu],?_⟩
 rw [show l.toArray[i]?=some o by simpa using ho]
 show (o.after.all _)=true
 refine Array.all_eq_true_iff_forall_mem.2 fun e he=>?_
 by_cases h:Region.binds .any e=true
 ·have:=hb e.on (List.mem_map.2 ⟨e,List.mem_filter.2 ⟨by simpa using he,h⟩,rfl⟩)
  simp [this]
 ·simp [h]

/-- A REGION THAT DRAWS ITS ORDER, BY ONE OBLIGATION AN OPERATION. -/
theorem reg_mid {Q:Exit→Act→World→Prop} {Bs:List (List Nat)} (hR:∀ a,G a a) (hG:∀ a b c,G a b→G b c→G a c) (hF:∀ i v w w',F i v w→G w w'→F i v w')
  (hok:slotsOk l D Bs t0.size=true) (hap:slotsApart D l.length=true) (hB:Bs.length=l.length) (ho:Obls P G F D ds l w0 t0 l 0 Bs)
  (hQ:∀ w,G w0 w→Given F D w t0 (List.range l.length) fun t=>Q .normal ⟨t,ds⟩ w) :
  ∀ (fuel:Nat) (x:Nat→Value) (listed:Array Bool) (t:Array Value) (w:World),Mid l G F D l.length w0 t0 x listed t w→listed.toList.count false=fuel→wpAny P .any l.toArray Q fuel listed ⟨t,ds⟩ w:=by
 have hapart:∀ i j,i < l.length→j < l.length→D.getD i 0=D.getD j 0→i=j:=by
  intro i j hi hj he
  unfold slotsApart at hap
  have:=List.all_eq_true.1 (List.all_eq_true.1 hap i (by simpa using hi)) j (by simpa using hj)
  rw [Bool.or_eq_true] at this
  rcases this with h | h
  ·simpa using h
  ·rw [he] at h;simp at h
 have hslot:∀ i o,l[i]?=some o→o.dst=some (D.getD i 0)∧D.getD i 0 < t0.size∧(∀ j ∈ Bs.getD i [],j ∈ beforeOf o)∧(∀ j ∈ beforeOf o,j < i)∧(∀ cs b,o.op ≠ .select cs b) ∧
   ∀ d ∈ o.looksAt l.toArray,∀ j oj,l[j]?=some oj→D.getD j 0=d→j ∈ Bs.getD i []∨i ∈ beforeOf oj:=by
  intro i o h
  have hi:i < l.length:=(List.getElem?_eq_some_iff.1 h).1
  unfold slotsOk at hok
  have h1:=List.all_eq_true.1 hok i (by simpa using hi)
  rw [h] at h1
  simp only [Bool.and_eq_true] at h1
  obtain ⟨⟨⟨⟨⟨a,b⟩,c⟩,d⟩,e⟩,f⟩:=h1
  refine ⟨by simpa using a,by simpa using b,fun j hj=>by simpa using List.all_eq_true.1 c j hj,fun j hj=>by simpa using List.all_eq_true.1 d j hj,fun cs b' he=>?_,fun d' hd' j oj hj hjd=>?_⟩
  ·rw [he] at e;simp at e
  ·have:=List.all_eq_true.1 (List.all_eq_true.1 f d' hd') j (by simpa using (List.getElem?_eq_some_iff.1 hj).1)
   rw [hj] at this
   simp only [Bool.or_eq_true,bne_iff_ne,ne_eq,hjd,not_true_eq_false,false_or,List.contains_iff_mem] at this
   exact this
 have hfin:∀ (x:Nat→Value) (listed:Array Bool) (t:Array Value) (w:World),Mid l G F D l.length w0 t0 x listed t w→(∀ j,j < l.length→listed.getD j true=true)→Q .normal ⟨t,ds⟩ w:=by
  intro x listed t w hm hall
  have h1:=(hQ w hm.went).use x (fun j hj=>(hm.here j (by simpa using hj) (hall j (by simpa using hj))).2)
  have h2:(List.range l.length).foldl (fun t j=>t.setIfInBounds (D.getD j 0) (x j)) t0=t:=by
   apply Array.ext_getElem?
   intro d
   by_cases hd:∃ j,j < l.length∧D.getD j 0=d
   ·obtain ⟨j,hj,rfl⟩:=hd
    obtain ⟨o,hoj⟩:∃ o,l[j]?=some o:=⟨_,List.getElem?_eq_getElem hj⟩
    rw [fold_at x _ _ (by simpa using hj) (fun k hk e=>hapart k j (by simpa using hk) hj e) (hslot j o hoj).2.1,(hm.here j hj (hall j hj)).1]
   ·rw [fold_other x _ _ (fun j hj e=>hd ⟨j,by simpa using hj,e⟩),hm.other d (fun j hj _ e=>hd ⟨j,hj,e⟩)]
  rw [h2] at h1
  exact h1
 have hnil:∀ (x:Nat→Value) (listed:Array Bool) (t:Array Value) (w:World),Mid l G F D l.length w0 t0 x listed t w→Region.ready .any l.toArray listed=[]→∀ j,j < l.length→listed.getD j true=true:=by
  intro x listed t w hm hr j
  induction j using Nat.strongRecOn with
  | _ j ih=>
   intro hj
   cases hu:listed.getD j true with
   | true=>rfl
   | false=>
    obtain ⟨o,hoj⟩:∃ o,l[j]?=some o:=⟨_,List.getElem?_eq_getElem hj⟩
    obtain ⟨_,_,_,hlt,_,_⟩:=hslot j o hoj
    have:=ready_of hoj hu (fun k hk=>by
     have hkj:=hlt k hk
     rw [getD_any false true (by rw [hm.size];omega)]
     exact ih k hkj (by omega))
    rw [hr] at this
    cases this
 intro fuel
 induction fuel with
 | zero=>
  intro x listed t w hm hc
  have hall:∀ j,j < l.length→listed.getD j true=true:=by
   intro j hj
   have hjs:j < listed.size:=by rw [hm.size];exact hj
   have h0:false ∉ listed.toList:=List.count_eq_zero.1 hc
   cases hu:listed.getD j true with
   | true=>rfl
   | false=>
    have:listed.toList[j]=false:=by simpa [Array.getD,hjs] using hu
    exact absurd (this ▸ List.getElem_mem _) h0
  refine ⟨?_,hfin x listed t w hm hall⟩
  cases hr:Region.ready .any l.toArray listed with
  | nil=>rfl
  | cons i r=>
   obtain ⟨o,hoi,hu,_⟩:=ready_mem (l:=l) (listed:=listed) (i:=i) (by rw [hr];simp)
   rw [hall i (List.getElem?_eq_some_iff.1 hoi).1] at hu
   cases hu
 | succ fuel ih=>
  intro x listed t w hm hc
  refine ⟨fun hr=>hfin x listed t w hm (hnil x listed t w hm hr),fun i hi=>?_⟩
  obtain ⟨o,hoi,hu,hbk⟩:=ready_mem hi
  have hil:i < l.length:=(List.getElem?_eq_some_iff.1 hoi).1
  have his:i < listed.size:=by rw [hm.size];exact hil
  obtain ⟨hdst,hlt,hbf,hbl,hsel,hlook⟩:=hslot i o hoi
  have hbk':∀ k ∈ beforeOf o,k < l.length∧listed.getD k true=true:=fun k hk=>by
   have:=hbl k hk
   exact ⟨by omega,by rw [getD_any true false (by rw [hm.size];omega)];exact hbk k hk⟩
  have hob:=ho.get (Bs:=Bs) hB i o hoi
  rw [Nat.zero_add] at hob
  have h1:=(hob w hm.went).use x (fun j hj=>(hm.here j (hbk' j (hbf j hj)).1 (hbk' j (hbf j hj)).2).2)
  have hsame:∀ d ∈ o.looksAt l.toArray,t[d]?=((Bs.getD i []).foldl (fun t j=>t.setIfInBounds (D.getD j 0) (x j)) t0)[d]?:=by
   intro d hd
   by_cases hx:∃ j,j < l.length∧D.getD j 0=d∧j ∈ Bs.getD i []
   ·obtain ⟨j,hj,rfl,hjb⟩:=hx
    obtain ⟨oj,hoj⟩:∃ o,l[j]?=some o:=⟨_,List.getElem?_eq_getElem hj⟩
    rw [(hm.here j hj (hbk' j (hbf j hjb)).2).1,fold_at x _ _ hjb (fun k hk e=>hapart k j (hbk' k (hbf k hk)).1 hj e) (hslot j oj hoj).2.1]
   ·rw [fold_other x _ _ (fun j hj e=>hx ⟨j,(hbk' j (hbf j hj)).1,e,hj⟩)]
    refine hm.other d fun j hj hjl e=>?_
    obtain ⟨oj,hoj⟩:∃ o,l[j]?=some o:=⟨_,List.getElem?_eq_getElem hj⟩
    rcases hlook d hd j oj hoj e with h | h
    ·exact hx ⟨j,hj,e,h⟩
    ·have:=hm.shut j oj hoj hjl i h
     rw [hu] at this
     cases this
  -- what follows when the operation has yielded v
  have hnext:∀ v w',G w w'→F i v w'→wpAny P .any l.toArray Q fuel (listed.setIfInBounds i true) ⟨t.setIfInBounds (D.getD i 0) v,ds⟩ w':=by
   intro v w' hg hf
   refine ih (fun j=>if j=i then v else x j) _ _ _ ⟨by simp [hm.size],hG _ _ _ hm.went hg,by simp [hm.tsize],fun j hj hl=>?_,fun d hd=>?_,fun j oj hoj hl k hk=>?_⟩ (by have:=count_set his hu;omega)
   ·rw [getD_set his] at hl
    by_cases hji:i=j
    ·subst hji
     rw [Array.getElem?_setIfInBounds_self,if_pos (by rw [hm.tsize];exact hlt),if_pos rfl]
     exact ⟨rfl,hf⟩
    ·rw [if_neg hji] at hl
     obtain ⟨h2,h3⟩:=hm.here j hj hl
     rw [Array.getElem?_setIfInBounds_ne (fun e=>hji (hapart i j hil hj e)),if_neg (fun e=>hji e.symm)]
     exact ⟨h2,hF j _ _ _ h3 hg⟩
   ·have hdi:D.getD i 0 ≠ d:=hd i hil (by rw [getD_set his,if_pos rfl])
    rw [Array.getElem?_setIfInBounds_ne hdi]
    exact hm.other d fun j hj hl=>hd j hj (by rw [getD_set his];split <;> simp [hl])
   ·rw [getD_set his] at hl ⊢
    by_cases hki:i=k
    ·rw [if_pos hki]
    ·rw [if_neg hki]
     by_cases hji:i=j
     ·subst hji
      obtain rfl:o=oj:=by rw [hoi] at hoj;exact Option.some.inj hoj
      exact (hbk' k hk).2
     ·rw [if_neg hji] at hl
      exact hm.shut j oj hoj hl k hk
  have hw:=wanted_same (o:=o) hsame
  unfold wpOp
  rw [show l.toArray[i]?=some o by simpa using hoi]
  show if Region.wanted o (yielded l.toArray t)=true then _ else _
  rw [hw]
  split
  ·rename_i hwt
   replace h1:=h1.1 hwt
   refine .inl ?_
   exact wp_same (R:=fun v w'=>G w w'∧F i v w') hdst (by rw [fold_size];exact hlt) (exec_same hsel hsame) h1 (fun v w' hr=>hnext v w' hr.1 hr.2)
  ·rename_i hwt
   replace h1:=h1.2 (by simpa using hwt);rw [hdst]
   exact hnext undef w (hR w) h1

theorem reg_free {Q:Exit→Act→World→Prop} {id:Nat} {w:World} (F:Nat→Value→World→Prop) (D:List Tmp) (Bs:List (List Nat)) (Ns:List Nat) (hm:P.follows .mixedOrders=true) (hR:∀ a,G a a) (hG:∀ a b c,G a b→G b c→G a c) (hF:∀ i v w w',F i v w→G w w'→F i v w')
  (m:Nat) (hsz:t0.size=m) (hok:slotsOk l D Bs m=true) (hap:slotsApart D l.length=true) (hB:Bs.length=l.length) (hN:List.range l.length=Ns) (ho:Obls P G F D ds l w.drew t0 l 0 Bs)
  (hQ:∀ w',G w.drew w'→Given F D w' t0 Ns fun t=>Q .normal ⟨t,ds⟩ w'):(Code.region id l.toArray true).wp P Q ⟨t0,ds⟩ w:=by
 subst hsz;subst hN
 refine wp_region_any hm (reg_mid hR hG hF hok hap hB ho hQ _ (fun _=>undef) _ _ _ ⟨by simp,hR _,rfl,fun j hj hl=>?_,fun d _=>rfl,fun j oj hoj hl=>?_⟩ (by simp))
 ·simp [Array.getD,hj] at hl
 ·simp [Array.getD,(List.getElem?_eq_some_iff.1 hoj).1] at hl

/-- The usual relation: nothing that was there has turned. -/
def Kept (w w':World):Prop:=Below w.heap.size w w'
theorem Kept.refl (w:World):Kept w w:=Below.refl _ _
theorem Kept.trans (a b c:World) (h:Kept a b) (k:Kept b c):Kept a c:=by
 unfold Kept at *
 exact h.trans (k.mono h.size)
def eqV (x:Value):Value→World→Prop:=fun v _=>v=x
def pickF (L:List (Value→World→Prop)) (i:Nat) (v:Value) (w:World):Prop:=L.getD i (fun _ _=>True) v w
def Stays (G:World→World→Prop) (p:Value→World→Prop):Prop:=∀ v w w',p v w→G w w'→p v w'
def AllStay (G:World→World→Prop):List (Value→World→Prop)→Prop
 | []=>True
 | p :: r=>Stays G p∧AllStay G r
theorem eS (x:Value):Stays G (eqV x):=fun _ _ _ h _=>h
theorem pick_stays:∀ {L:List (Value→World→Prop)},AllStay G L→∀ i v w w',pickF L i v w→G w w'→pickF L i v w'
 | [],_,_,_,_,_,_,_=>by simp [pickF]
 | _ :: _,h,0,v,w,w',hp,hg=>h.1 v w w' hp hg
 | _ :: _,h,i+1,v,w,w',hp,hg=>pick_stays h.2 i v w w' hp hg
theorem t1o {o:Oper} {i:Nat} {t:Array Value} {w:World} (hc:Region.wanted o (yielded l.toArray t)=true)
  (h:∀ K:Act→World→Prop,(∀ a' w',(a'.defers=ds∧G w w'∧F i (a'.tmps.getD (D.getD i 0) undef) w')→K a' w')→Oper.wp P o ⟨t,ds⟩ w K (fun _ _ _=>False)) :
  Turn P G F D ds l w o i t:=⟨fun _=>h _ (fun _ _ h=>h),fun h'=>by rw [hc] at h';cases h'⟩
theorem turn_off {o:Oper} {i:Nat} {t:Array Value} {w:World} (hc:Region.wanted o (yielded l.toArray t)=false) (h:F i undef w):Turn P G F D ds l w o i t:=
 ⟨fun h'=>absurd (hc.symm.trans h') (by simp),fun _=>h⟩
end
/-- Operation i comes behind operation j (a walk along the edges of so many steps). -/
def waits (l:List Oper):Nat→Nat→Nat→Bool
 | 0,_,_=>false
 | f+1,i,j=>match l[i]? with
  | none=>false
  | some o=>(beforeOf o).any fun k=>k == j || waits l f k j
section
variable (P:Program) (Gs:Nat→World→World→Prop) (I:Nat→World→Prop) (F:Nat→Value→World→Prop) (D:List Tmp) (ds:List Deferred)
def Turn2 (l:List Oper) (w:World) (o:Oper) (i:Nat) (t:Array Value):Prop:=
 (Region.wanted o (yielded l.toArray t)=true→Oper.wp P o ⟨t,ds⟩ w (fun a' w'=>a'.defers=ds∧Gs i w w'∧F i (a'.tmps.getD (D.getD i 0) undef) w') (fun _ _ _=>False)) ∧
 (Region.wanted o (yielded l.toArray t)=false→Gs i w w∧F i undef w)
def Obl2 (l:List Oper) (t0:Array Value) (o:Oper) (i:Nat) (B:List Nat):Prop:=
 ∀ w,I i w→Given F D w t0 B fun t=>Turn2 P Gs F D ds l w o i t
def Obls2 (l:List Oper) (t0:Array Value):List Oper→Nat→List (List Nat)→Prop
 | o :: r,i,B :: Bs=>Obl2 P Gs I F D ds l t0 o i B∧Obls2 l t0 r (i+1) Bs
 | _,_,_=>True
end
def slotsOk2 (l:List Oper) (D:List Tmp) (Bs:List (List Nat)) (m:Nat):Bool:=
 (List.range l.length).all fun i=>match l[i]? with
  | none=>true
  | some o=>(match o.dst with | some d=>d == D.getD i 0 && Nat.blt (D.getD i 0) m | none=>Nat.ble m (D.getD i 0)) && (Bs.getD i []).all (fun j=>(beforeOf o).contains j) && (beforeOf o).all (fun j=>Nat.blt j i) &&
   (match o.op with | .select _ _=>false | _=>true) &&
   (o.looksAt l.toArray).all fun d=>(List.range l.length).all fun j=>D.getD j 0 != d || (Bs.getD i []).contains j || (match l[j]? with | some oj=>(beforeOf oj).contains i | none=>false)
section
variable {P:Program} {Gs:Nat→World→World→Prop} {I:Nat→World→Prop} {F:Nat→Value→World→Prop} {D:List Tmp} {ds:List Deferred} {l:List Oper} {t0:Array Value}
theorem Obls2.get {Bs:List (List Nat)}:∀ {r:List Oper} {k:Nat} {B:List (List Nat)},Obls2 P Gs I F D ds l t0 r k B→B.length=r.length→∀ i o,r[i]?=some o→Obl2 P Gs I F D ds l t0 o (k+i) (B.getD i [])
 | [],_,_,_,_,i,o,h=>by simp at h
 | o :: r,k,[],h,hl,_,_,_=>by simp at hl
 | o :: r,k,B :: Bs',h,hl,0,o',h'=>by
  simp at h'
  subst h'
  exact h.1
 | o :: r,k,B :: Bs',h,hl,i+1,o',h'=>by
  have:=Obls2.get (Bs:=Bs) h.2 (by simpa using hl) i o' (by simpa using h')
  rw [show k+(i+1)=k+1+i from by omega]
  simpa using this
theorem wp_same2 {o:Oper} {t t':Array Value} {w:World} {d:Tmp} {Q:Exit→Act→World→Prop} {K:Act→World→Prop} {R:Value→World→Prop} (hsz:t.size=t'.size) (hd:(o.dst=some d∧d < t'.size)∨(o.dst=none∧t'.size≤d))
  (he:execOp (Act.mk t ds).eval o=execOp (Act.mk t' ds).eval o)
  (h:Oper.wp P o ⟨t',ds⟩ w (fun a' w'=>a'.defers=ds∧R (a'.tmps.getD d undef) w') (fun _ _ _=>False)) (hK:∀ v w',R v w'→K ⟨t.setIfInBounds d v,ds⟩ w') :
  Oper.wp P o ⟨t,ds⟩ w K Q:=by
 rcases hd with ⟨hd,hdt⟩ | ⟨hd,hdt⟩
 ·exact wp_same hd hdt he h hK
 ·have hno:∀ v:Value,t.setIfInBounds d v=t:=fun v=>Array.setIfInBounds_eq_of_size_le (by omega)
  have hget:t'.getD d undef=undef:=by simp [Array.getD_eq_getD_getElem?,hdt]
  unfold Oper.wp at *
  rw [he]
  generalize (execOp (Act.mk t' ds).eval o).run P w=r at *
  have hput:∀ v w',(((Act.mk t' ds).put o.dst v).defers=ds∧R (((Act.mk t' ds).put o.dst v).tmps.getD d undef) w')→K ((Act.mk t ds).put o.dst v) w':=by
   intro v w' ⟨_,hr⟩
   rw [hd] at hr ⊢
   simp only [Act.put,hget] at hr ⊢
   have:=hK undef w' hr
   rwa [hno] at this
  cases r with
  | ok n w'=>
   cases n with
   | value v=>exact hput v w' h
   | skip=>exact hput undef w' h
   | enter f args=>
    refine Calls.mono h fun e w'' he'=>?_
    cases e with
    | returned v=>exact hput v w'' he'
    | panicked c=>exact he'.elim
    | outgrown=>obtain ⟨_,_,hf⟩:=he';exact hf.elim
   | row r args=>exact Rows.mono h (fun v w'' hr=>hput v w'' hr)
   | defer d'=>
    obtain ⟨hds,_⟩:=h
    rw [hd] at hds
    exact absurd hds (by simp [Act.put])
   | _=>exact h
  | halt x w'=>
   cases x with
   | panic v=>exact h.elim
   | _=>exact h
structure Mid2 (l:List Oper) (I:Nat→World→Prop) (F:Nat→Value→World→Prop) (D:List Tmp) (n:Nat) (t0:Array Value) (x:Nat→Value) (listed:Array Bool) (t:Array Value) (w:World):Prop where
 size:listed.size=n
 tsize:t.size=t0.size
 here:∀ j,j < n→listed.getD j true=true→(D.getD j 0 < t0.size→t[D.getD j 0]?=some (x j))∧F j (x j) w
 wait:∀ j,j < n→listed.getD j true=false→I j w
 fin:I n w
 other:∀ d,(∀ j,j < n→listed.getD j true=true→D.getD j 0 ≠ d)→t[d]?=t0[d]?
 shut:∀ j o,l[j]?=some o→listed.getD j true=true→∀ k ∈ beforeOf o,listed.getD k true=true
theorem waits_listed {listed:Array Bool} (shut:∀ j o,l[j]?=some o→listed.getD j true=true→∀ k ∈ beforeOf o,listed.getD k true=true) :
  ∀ (f i j:Nat),waits l f i j=true→listed.getD i true=true→listed.getD j true=true
 | 0,_,_,h,_=>by simp [waits] at h
 | f+1,i,j,h,hi=>by
  unfold waits at h
  split at h
  ·cases h
  ·rename_i o ho
   obtain ⟨k,hk,hk2⟩:=List.any_eq_true.1 h
   have hlk:=shut i o ho hi k hk
   rw [Bool.or_eq_true] at hk2
   rcases hk2 with e | e
   ·rw [← (beq_iff_eq.1 e)];exact hlk
   ·exact waits_listed shut f k j e hlk
theorem reg_mid2 {Q:Exit→Act→World→Prop} {Bs:List (List Nat)} (f:Nat)
  (hF:∀ i j v w w',i < l.length→j < l.length→j ≠ i→waits l f i j=false→F i v w→Gs j w w'→F i v w')
  (hI:∀ i j w w',i≤l.length→j < l.length→j ≠ i→waits l f j i=false→I i w→Gs j w w'→I i w')
  (hok:slotsOk2 l D Bs t0.size=true) (hap:slotsApart D l.length=true) (hB:Bs.length=l.length) (ho:Obls2 P Gs I F D ds l t0 l 0 Bs)
  (hQ:∀ w,I l.length w→Given F D w t0 (List.range l.length) fun t=>Q .normal ⟨t,ds⟩ w) :
  ∀ (fuel:Nat) (x:Nat→Value) (listed:Array Bool) (t:Array Value) (w:World),Mid2 l I F D l.length t0 x listed t w→listed.toList.count false=fuel→wpAny P .any l.toArray Q fuel listed ⟨t,ds⟩ w:=by
 have hapart:∀ i j,i < l.length→j < l.length→D.getD i 0=D.getD j 0→i=j:=by
  intro i j hi hj he
  unfold slotsApart at hap
  have:=List.all_eq_true.1 (List.all_eq_true.1 hap i (by simpa using hi)) j (by simpa using hj)
  rw [Bool.or_eq_true] at this
  rcases this with h | h
  ·simpa using h
  ·rw [he] at h;simp at h
 have hslot:∀ i o,l[i]?=some o→((o.dst=some (D.getD i 0)∧D.getD i 0 < t0.size)∨(o.dst=none∧t0.size≤D.getD i 0))∧(∀ j ∈ Bs.getD i [],j ∈ beforeOf o)∧(∀ j ∈ beforeOf o,j < i)∧(∀ cs b,o.op ≠ .select cs b) ∧
   ∀ d ∈ o.looksAt l.toArray,∀ j oj,l[j]?=some oj→D.getD j 0=d→j ∈ Bs.getD i []∨i ∈ beforeOf oj:=by
  intro i o h
  have hi:i < l.length:=(List.getElem?_eq_some_iff.1 h).1
  unfold slotsOk2 at hok
  have h1:=List.all_eq_true.1 hok i (by simpa using hi)
  rw [h] at h1
  simp only [Bool.and_eq_true] at h1
  obtain ⟨⟨⟨⟨a,c⟩,d⟩,e⟩,g⟩:=h1
  refine ⟨?_,fun j hj=>by simpa using List.all_eq_true.1 c j hj,fun j hj=>by simpa using List.all_eq_true.1 d j hj,fun cs b' he=>?_,fun d' hd' j oj hj hjd=>?_⟩
  ·cases hdst:o.dst with
   | none=>rw [hdst] at a;exact .inr ⟨rfl,by simpa using a⟩
   | some d=>rw [hdst,Bool.and_eq_true,beq_iff_eq] at a;exact .inl ⟨by rw [a.1],by simpa using a.2⟩
  ·rw [he] at e;simp at e
  ·have:=List.all_eq_true.1 (List.all_eq_true.1 g d' hd') j (by simpa using (List.getElem?_eq_some_iff.1 hj).1)
   rw [hj] at this
   simp only [Bool.or_eq_true,bne_iff_ne,ne_eq,hjd,not_true_eq_false,false_or,List.contains_iff_mem] at this
   exact this
 have hfin:∀ (x:Nat→Value) (listed:Array Bool) (t:Array Value) (w:World),Mid2 l I F D l.length t0 x listed t w→(∀ j,j < l.length→listed.getD j true=true)→Q .normal ⟨t,ds⟩ w:=by
  intro x listed t w hm hall
  have h1:=(hQ w hm.fin).use x (fun j hj=>(hm.here j (by simpa using hj) (hall j (by simpa using hj))).2)
  have h2:(List.range l.length).foldl (fun t j=>t.setIfInBounds (D.getD j 0) (x j)) t0=t:=by
   apply Array.ext_getElem?
   intro d
   by_cases hd:∃ j,j < l.length∧D.getD j 0=d
   ·obtain ⟨j,hj,rfl⟩:=hd
    by_cases hin:D.getD j 0 < t0.size
    ·rw [fold_at x _ _ (by simpa using hj) (fun k hk e=>hapart k j (by simpa using hk) hj e) hin,(hm.here j hj (hall j hj)).1 hin]
    ·have hin':t0.size≤D.getD j 0:=Nat.le_of_not_lt hin
     have e1:((List.range l.length).foldl (fun t j=>t.setIfInBounds (D.getD j 0) (x j)) t0).size≤D.getD j 0:=by rw [fold_size];omega
     have e2:t.size≤D.getD j 0:=by rw [hm.tsize];omega
     rw [Array.getElem?_eq_none e1,Array.getElem?_eq_none e2]
   ·rw [fold_other x _ _ (fun j hj e=>hd ⟨j,by simpa using hj,e⟩),hm.other d (fun j hj _ e=>hd ⟨j,hj,e⟩)]
  rw [h2] at h1
  exact h1
 have hnil:∀ (x:Nat→Value) (listed:Array Bool) (t:Array Value) (w:World),Mid2 l I F D l.length t0 x listed t w→Region.ready .any l.toArray listed=[]→∀ j,j < l.length→listed.getD j true=true:=by
  intro x listed t w hm hr j
  induction j using Nat.strongRecOn with
  | _ j ih=>
   intro hj
   cases hu:listed.getD j true with
   | true=>rfl
   | false=>
    obtain ⟨o,hoj⟩:∃ o,l[j]?=some o:=⟨_,List.getElem?_eq_getElem hj⟩
    obtain ⟨_,_,hlt,_,_⟩:=hslot j o hoj
    have:=ready_of hoj hu (fun k hk=>by
     have hkj:=hlt k hk
     rw [getD_any false true (by rw [hm.size];omega)]
     exact ih k hkj (by omega))
    rw [hr] at this
    cases this
 intro fuel
 induction fuel with
 | zero=>
  intro x listed t w hm hc
  have hall:∀ j,j < l.length→listed.getD j true=true:=by
   intro j hj
   have hjs:j < listed.size:=by rw [hm.size];exact hj
   have h0:false ∉ listed.toList:=List.count_eq_zero.1 hc
   cases hu:listed.getD j true with
   | true=>rfl
   | false=>
    have:listed.toList[j]=false:=by simpa [Array.getD,hjs] using hu
    exact absurd (this ▸ List.getElem_mem _) h0
  refine ⟨?_,hfin x listed t w hm hall⟩
  cases hr:Region.ready .any l.toArray listed with
  | nil=>rfl
  | cons i r=>
   obtain ⟨o,hoi,hu,_⟩:=ready_mem (l:=l) (listed:=listed) (i:=i) (by rw [hr];simp)
   rw [hall i (List.getElem?_eq_some_iff.1 hoi).1] at hu
   cases hu
 | succ fuel ih=>
  intro x listed t w hm hc
  refine ⟨fun hr=>hfin x listed t w hm (hnil x listed t w hm hr),fun i hi=>?_⟩
  obtain ⟨o,hoi,hu,hbk⟩:=ready_mem hi
  have hil:i < l.length:=(List.getElem?_eq_some_iff.1 hoi).1
  have his:i < listed.size:=by rw [hm.size];exact hil
  obtain ⟨hdst,hbf,hbl,hsel,hlook⟩:=hslot i o hoi
  have hbk':∀ k ∈ beforeOf o,k < l.length∧listed.getD k true=true:=fun k hk=>by
   have:=hbl k hk
   exact ⟨by omega,by rw [getD_any true false (by rw [hm.size];omega)];exact hbk k hk⟩
  have hob:=ho.get (Bs:=Bs) hB i o hoi
  rw [Nat.zero_add] at hob
  have h1:=(hob w (hm.wait i hil hu)).use x (fun j hj=>(hm.here j (hbk' j (hbf j hj)).1 (hbk' j (hbf j hj)).2).2)
  have hsame:∀ d ∈ o.looksAt l.toArray,t[d]?=((Bs.getD i []).foldl (fun t j=>t.setIfInBounds (D.getD j 0) (x j)) t0)[d]?:=by
   intro d hd
   by_cases hx:∃ j,j < l.length∧D.getD j 0=d∧j ∈ Bs.getD i []
   ·obtain ⟨j,hj,rfl,hjb⟩:=hx
    by_cases hin:D.getD j 0 < t0.size
    ·rw [(hm.here j hj (hbk' j (hbf j hjb)).2).1 hin,fold_at x _ _ hjb (fun k hk e=>hapart k j (hbk' k (hbf k hk)).1 hj e) hin]
    ·have hin':t0.size≤D.getD j 0:=Nat.le_of_not_lt hin
     have e1:((Bs.getD i []).foldl (fun t j=>t.setIfInBounds (D.getD j 0) (x j)) t0).size≤D.getD j 0:=by rw [fold_size];omega
     have e2:t.size≤D.getD j 0:=by rw [hm.tsize];omega
     rw [Array.getElem?_eq_none e1,Array.getElem?_eq_none e2]
   ·rw [fold_other x _ _ (fun j hj e=>hx ⟨j,(hbk' j (hbf j hj)).1,e,hj⟩)]
    refine hm.other d fun j hj hjl e=>?_
    obtain ⟨oj,hoj⟩:∃ o,l[j]?=some o:=⟨_,List.getElem?_eq_getElem hj⟩
    rcases hlook d hd j oj hoj e with h | h
    ·exact hx ⟨j,hj,e,h⟩
    ·have:=hm.shut j oj hoj hjl i h
     rw [hu] at this
     cases this
  have hnext:∀ v w',Gs i w w'→F i v w'→wpAny P .any l.toArray Q fuel (listed.setIfInBounds i true) ⟨t.setIfInBounds (D.getD i 0) v,ds⟩ w':=by
   intro v w' hg hf
   refine ih (fun j=>if j=i then v else x j) _ _ _ ⟨by simp [hm.size],by simp [hm.tsize],fun j hj hl=>?_,fun j hj hl=>?_,?_,fun d hd=>?_,fun j oj hoj hl k hk=>?_⟩ (by have:=count_set his hu;omega)
   ·rw [getD_set his] at hl
    by_cases hji:i=j
    ·subst hji
     refine ⟨fun hlt=>?_,by rw [if_pos rfl];exact hf⟩
     rw [Array.getElem?_setIfInBounds_self,if_pos (by rw [hm.tsize];exact hlt),if_pos rfl]
    ·rw [if_neg hji] at hl
     obtain ⟨h2,h3⟩:=hm.here j hj hl
     rw [Array.getElem?_setIfInBounds_ne (fun e=>hji (hapart i j hil hj e)),if_neg (fun e=>hji e.symm)]
     refine ⟨h2,hF j i _ _ _ hj hil hji ?_ h3 hg⟩
     cases hw:waits l f j i with
     | false=>rfl
     | true=>
      have:=waits_listed hm.shut f j i hw hl
      rw [hu] at this
      cases this
   ·rw [getD_set his] at hl
    by_cases hji:i=j
    ·rw [if_pos hji] at hl;cases hl
    ·rw [if_neg hji] at hl
     refine hI j i _ _ (by omega) hil hji ?_ (hm.wait j hj hl) hg
     cases hw:waits l f i j with
     | false=>rfl
     | true=>
      exfalso
      have hset:∀ q p,l[q]?=some p→(listed.setIfInBounds i true).getD q true=true→∀ k ∈ beforeOf p,(listed.setIfInBounds i true).getD k true=true:=by
       intro q p hq hlq k hk;rw [getD_set his] at hlq ⊢
       by_cases hki:i=k
       ·rw [if_pos hki]
       ·rw [if_neg hki]
        by_cases hqi:i=q
        ·subst hqi
         obtain rfl:o=p:=by rw [hoi] at hq;exact Option.some.inj hq
         exact (hbk' k hk).2
        ·rw [if_neg hqi] at hlq
         exact hm.shut q p hq hlq k hk
      have:=waits_listed hset f i j hw (by rw [getD_set his,if_pos rfl])
      rw [getD_set his,if_neg hji,hl] at this
      cases this
   ·refine hI l.length i _ _ (Nat.le_refl _) hil (by omega) ?_ hm.fin hg
    cases hw:waits l f i l.length with
    | false=>rfl
    | true=>
     exfalso
     have:∀ (f q:Nat),waits l f q l.length=true→False:=by
      intro f
      induction f with
      | zero=>intro q h;simp [waits] at h
      | succ f ihf=>
       intro q h
       unfold waits at h
       split at h
       ·cases h
       ·rename_i p hp
        obtain ⟨k,hk,hk2⟩:=List.any_eq_true.1 h
        rw [Bool.or_eq_true] at hk2
        rcases hk2 with e | e
        ·have:=(hslot q p hp).2.2.1 k hk
         have hq:q < l.length:=(List.getElem?_eq_some_iff.1 hp).1
         rw [beq_iff_eq.1 e] at this
         omega
        ·exact ihf k e
     exact this f i hw
   ·have hdi:D.getD i 0 ≠ d:=hd i hil (by rw [getD_set his,if_pos rfl])
    rw [Array.getElem?_setIfInBounds_ne hdi]
    exact hm.other d fun j hj hl=>hd j hj (by rw [getD_set his];split <;> simp [hl])
   ·rw [getD_set his] at hl ⊢
    by_cases hki:i=k
    ·rw [if_pos hki]
    ·rw [if_neg hki]
     by_cases hji:i=j
     ·subst hji
      obtain rfl:o=oj:=by rw [hoi] at hoj;exact Option.some.inj hoj
      exact (hbk' k hk).2
     ·rw [if_neg hji] at hl
      exact hm.shut j oj hoj hl k hk
  have hw:=wanted_same (o:=o) hsame
  unfold wpOp
  rw [show l.toArray[i]?=some o by simpa using hoi]
  show if Region.wanted o (yielded l.toArray t)=true then _ else _
  rw [hw]
  split
  ·rename_i hwt
   replace h1:=h1.1 hwt
   refine .inl ?_
   exact wp_same2 (R:=fun v w'=>Gs i w w'∧F i v w') (by rw [fold_size,hm.tsize]) (by rw [fold_size];exact hdst) (exec_same hsel hsame) h1 (fun v w' hr=>hnext v w' hr.1 hr.2)
  ·rename_i hwt
   replace h1:=h1.2 (by simpa using hwt)
   have hn:=hnext undef w h1.1 h1.2
   rcases hdst with ⟨hd1,_⟩ | ⟨hd1,hd2⟩
   ·rw [hd1];exact hn
   ·rw [hd1]
    have e2:t.setIfInBounds (D.getD i 0) undef=t:=Array.setIfInBounds_eq_of_size_le (by rw [hm.tsize];exact hd2)
    rw [e2] at hn
    exact hn
/-- The ways of the operations that write; all others keep what was there. -/
def pickG:List (Nat × (World→World→Prop))→Nat→World→World→Prop
 | [],_=>Kept
 | (s,G) :: r,j=>if j=s then G else pickG r j
def pickI:List (Nat × (World→Prop))→Nat→World→Prop
 | [],_,_=>True
 | (s,p) :: r,i,w=>if i=s then p w else pickI r i w
/-- What is left by each operation bears a writing operation, or the operation comes behind it. -/
def AllBear (l:List Oper) (f:Nat) (s:Nat) (G:World→World→Prop):List (Value→World→Prop)→Nat→Prop
 | [],_=>True
 | p :: r,i=>(Stays G p∨waits l f i s=true∨i=s)∧AllBear l f s G r (i+1)
def BearAll (l:List Oper) (f:Nat) (L:List (Value→World→Prop)):List (Nat × (World→World→Prop))→Prop
 | []=>True
 | (s,G) :: r=>AllBear l f s G L 0∧BearAll l f L r
def StaysI (G:World→World→Prop) (p:World→Prop):Prop:=∀ w w',p w→G w w'→p w'
def AllBearI (l:List Oper) (f:Nat) (s:Nat) (G:World→World→Prop):List (Nat × (World→Prop))→Prop
 | []=>True
 | (i,p) :: r=>(StaysI G p∨waits l f s i=true∨s=i)∧AllBearI l f s G r
def BearAllI (l:List Oper) (f:Nat) (L:List (Nat × (World→Prop))):List (Nat × (World→World→Prop))→Prop
 | []=>True
 | (s,G) :: r=>AllBearI l f s G L∧BearAllI l f L r
def AllKeepI:List (Nat × (World→Prop))→Prop
 | []=>True
 | (_,p) :: r=>StaysI Kept p∧AllKeepI r
theorem AllBear.get {f s:Nat} {G:World→World→Prop}:∀ {L:List (Value→World→Prop)} {k:Nat},AllBear l f s G L k→∀ i v w w',s ≠ k+i→waits l f (k+i) s=false→pickF L i v w→G w w'→pickF L i v w'
 | [],_,_,_,_,_,_,_,_,_,_=>by simp [pickF]
 | p :: r,k,h,0,v,w,w',hs,hw,hp,hg=>by
  rcases h.1 with h1 | h1 | h1
  ·exact h1 v w w' hp hg
  ·rw [Nat.add_zero] at hw;rw [hw] at h1;cases h1
  ·exact absurd h1.symm hs
 | p :: r,k,h,i+1,v,w,w',hs,hw,hp,hg=>
  AllBear.get (L:=r) (k:=k+1) h.2 i v w w' (by omega) (by rw [show k+1+i=k+(i+1) by omega];exact hw) hp hg
theorem AllBearI.get {f s:Nat} {G:World→World→Prop}:∀ {L:List (Nat × (World→Prop))},AllBearI l f s G L→∀ i w w',s ≠ i→waits l f s i=false→pickI L i w→G w w'→pickI L i w'
 | [],_,_,_,_,_,_,_,_=>trivial
 | (k,p) :: r,h,i,w,w',hs,hw,hp,hg=>by
  unfold pickI at hp ⊢
  by_cases e:i=k
  ·rw [if_pos e] at hp ⊢
   rcases h.1 with h1 | h1 | h1
   ·exact h1 w w' hp hg
   ·rw [← e,hw] at h1;cases h1
   ·exact absurd (h1.trans e.symm) hs
  ·rw [if_neg e] at hp ⊢
   exact AllBearI.get (L:=r) h.2 i w w' hs hw hp hg
theorem keepI_get:∀ {L:List (Nat × (World→Prop))},AllKeepI L→∀ i w w',pickI L i w→Kept w w'→pickI L i w'
 | [],_,_,_,_,_,_=>trivial
 | (k,p) :: r,h,i,w,w',hp,hg=>by
  unfold pickI at hp ⊢
  by_cases e:i=k
  ·rw [if_pos e] at hp ⊢;exact h.1 w w' hp hg
  ·rw [if_neg e] at hp ⊢;exact keepI_get (L:=r) h.2 i w w' hp hg
theorem bear_get {f:Nat} {L:List (Value→World→Prop)} (hk:AllStay Kept L):∀ {S:List (Nat × (World→World→Prop))},BearAll l f L S→∀ i j v w w',j ≠ i→waits l f i j=false→pickF L i v w→pickG S j w w'→pickF L i v w'
 | [],_,i,_,v,w,w',_,_,hp,hg=>pick_stays hk i v w w' hp hg
 | (s,G) :: r,h,i,j,v,w,w',hne,hw,hp,hg=>by
  unfold pickG at hg
  by_cases e:j=s
  ·rw [if_pos e] at hg
   subst e
   have:=AllBear.get h.1 i v w w' (by rw [Nat.zero_add];exact hne) (by rw [Nat.zero_add];exact hw) hp hg
   exact this
  ·rw [if_neg e] at hg
   exact bear_get hk (S:=r) h.2 i j v w w' hne hw hp hg
theorem bearI_get {f:Nat} {L:List (Nat × (World→Prop))} (hk:AllKeepI L):∀ {S:List (Nat × (World→World→Prop))},BearAllI l f L S→∀ i j w w',j ≠ i→waits l f j i=false→pickI L i w→pickG S j w w'→pickI L i w'
 | [],_,i,_,w,w',_,_,hp,hg=>keepI_get hk i w w' hp hg
 | (s,G) :: r,h,i,j,w,w',hne,hw,hp,hg=>by
  unfold pickG at hg
  by_cases e:j=s
  ·rw [if_pos e] at hg
   subst e
   exact AllBearI.get h.1 i w w' hne hw hp hg
  ·rw [if_neg e] at hg
   exact bearI_get hk (S:=r) h.2 i j w w' hne hw hp hg
def HoldI (w:World):List (Nat × (World→Prop))→Prop
 | []=>True
 | (_,p) :: r=>p w∧HoldI w r
theorem hold_get {w:World}:∀ {L:List (Nat × (World→Prop))},HoldI w L→∀ i,pickI L i w
 | [],_,_=>trivial
 | (k,p) :: r,h,i=>by
  unfold pickI
  by_cases e:i=k
  ·rw [if_pos e];exact h.1
  ·rw [if_neg e];exact hold_get (L:=r) h.2 i
theorem reg_order {Q:Exit→Act→World→Prop} {id:Nat} {w:World} (L:List (Value→World→Prop)) (S:List (Nat × (World→World→Prop))) (IL:List (Nat × (World→Prop))) (D:List Tmp) (Bs:List (List Nat)) (Ns:List Nat) (f:Nat) (hm:P.follows .mixedOrders=true)
  (hLk:AllStay Kept L) (hLS:BearAll l f L S) (hIk:AllKeepI IL) (hIS:BearAllI l f IL S) (h0:HoldI w.drew IL)
  (m:Nat) (hsz:t0.size=m) (hok:slotsOk2 l D Bs m=true) (hap:slotsApart D l.length=true) (hB:Bs.length=l.length) (hN:List.range l.length=Ns) (n:Nat) (hn:l.length=n) (ho:Obls2 P (pickG S) (pickI IL) (pickF L) D ds l t0 l 0 Bs)
  (hQ:∀ w',pickI IL n w'→Given (pickF L) D w' t0 Ns fun t=>Q .normal ⟨t,ds⟩ w'):(Code.region id l.toArray true).wp P Q ⟨t0,ds⟩ w:=by
 subst hsz;subst hN;subst hn
 refine wp_region_any hm (reg_mid2 f (fun i j v w w' _ _ hne hw hp hg=>bear_get hLk hLS i j v w w' hne hw hp hg) (fun i j w w' _ _ hne hw hp hg=>bearI_get hIk hIS i j w w' hne hw hp hg) hok hap hB ho hQ _ (fun _=>undef) _ _ _ ⟨by simp,rfl,fun j hj hl=>?_,fun j hj _=>hold_get h0 j,hold_get h0 _,fun d _=>rfl,fun j oj hoj hl=>?_⟩ (by simp))
 ·simp [Array.getD,hj] at hl
 ·simp [Array.getD,(List.getElem?_eq_some_iff.1 hoj).1] at hl
theorem t2o {Gs:Nat→World→World→Prop} {o:Oper} {i:Nat} {t:Array Value} {w:World} (hc:Region.wanted o (yielded l.toArray t)=true)
  (h:∀ K:Act→World→Prop,(∀ a' w',(a'.defers=ds∧Gs i w w'∧F i (a'.tmps.getD (D.getD i 0) undef) w')→K a' w')→Oper.wp P o ⟨t,ds⟩ w K (fun _ _ _=>False)) :
  Turn2 P Gs F D ds l w o i t:=⟨fun _=>h _ (fun _ _ h=>h),fun h'=>by rw [hc] at h';cases h'⟩
end
section
variable {k:IntKind} {T e:TypeId} {w w':World} {h:Nat} {v:Value} {l:List Int}
theorem row_keep {c:Obj} (o:w.heap[h]?=some c) (b:Below w.heap.size w w'):w'.heap[h]?=some c:=by
 rw [b.block h (Array.getElem?_eq_some_iff.1 o).1];exact o
end
theorem cell_grown1 (w:World) (g i:Nat) (x:Value):w.grownBy (w.setCell ⟨g,i,none⟩ x) (some g):=
 ⟨rfl,rfl,rfl,by simp,fun k _ hk=>heap_setCell_other w ⟨g,i,none⟩ k x (fun e=>hk (by simp [e]))⟩
/-- Several cells of a block stored. -/
def sets (w:World) (b:Nat):List (Nat × Value)→World
 | []=>w
 | p :: r=>sets (w.setCell ⟨b,p.1,none⟩ p.2) b r
theorem sets_row {T:TypeId} {b:Nat}:∀ (L:List (Nat × Value)) {w:World} {cs:Array Value},w.heap[b]?=some (.cells cs T (0,0))→(sets w b L).heap[b]?=some (.cells (L.foldl (fun c p=>c.setIfInBounds p.1 p.2) cs) T (0,0))
 | [],_,_,h=>h
 | p :: r,w,cs,h=>sets_row r (heap_setCell_same w b p.1 cs T p.2 h)
theorem grown_one {w w1 w2:World} {b:Nat} (h:w.grownBy w1 (some b)) (k:w1.grownBy w2 (some b)):w.grownBy w2 (some b):=
 ⟨k.os.trans h.os,k.tape.trans h.tape,k.output.trans h.output,Nat.le_trans h.size k.size,fun i hi hn=>(k.block i (Nat.lt_of_lt_of_le hi h.size) hn).trans (h.block i hi hn)⟩
theorem sets_grown {b:Nat}:∀ (L:List (Nat × Value)) (w:World),w.grownBy (sets w b L) (some b)
 | [],_=>World.grownBy.refl _ _
 | p :: r,w=>grown_one (cell_grown1 w b p.1 p.2) (sets_grown r _)
theorem cells3 {w:World} {b T:Nat} {x0 x1 x2:Value} (h:w.heap[b]?=some (.cells #[x0,x1,x2] T (0,0))):w.cell? ⟨b,0,none⟩=some x0∧w.cell? ⟨b,1,none⟩=some x1∧w.cell? ⟨b,2,none⟩=some x2:=
 ⟨cell_of_row w b 0 _ _ _ h,cell_of_row w b 1 _ _ _ h,cell_of_row w b 2 _ _ _ h⟩
def Rg.cells (r:Rg):List Value:=[.int .i64 r.lo,.int .i64 r.hi,.int .i64 r.p]
theorem rgC:Cellular Rg.cells 3:=⟨fun _=>rfl,fun x u hu=>by
 simp only [Rg.cells,List.mem_cons,List.not_mem_nil,or_false] at hu
 rcases hu with rfl | rfl | rfl <;> rfl,by decide⟩
theorem rgI:(Tryz.prog.info? 110).map (fun i=>(i.zero,i.size,i.bytes))=some (some (.agg #[.int .i64 0,.int .i64 0,.int .i64 0]),3,24):=by kernel_rfl
/-- A region whose numbers are ints. -/
structure Rg.Wf (r:Rg):Prop where
 lo : -9223372036854775808≤r.lo∧r.lo≤9223372036854775807
 hi : -9223372036854775808≤r.hi∧r.hi≤9223372036854775807
 p : -9223372036854775808≤r.p∧r.p≤9223372036854775807
/-- A region well within the ints. -/
structure Rg.Sm (r:Rg):Prop where
 lo:0≤r.lo∧r.lo≤1099511627776
 hi:0≤r.hi∧r.hi≤1099511627776
 p:0≤r.p∧r.p≤3
theorem Rg.Sm.wf {r:Rg} (h:r.Sm):r.Wf:=⟨by have:=h.lo;omega,by have:=h.hi;omega,by have:=h.p;omega⟩
theorem RdS.three {w:World} {a:Option Addr} {n c:Nat} {L:List Rg} (h:RdS Rg.cells 3 w a n c L) (i:Nat) (r:Rg) (hr:L[i]?=some r) :
  ∃ b o,a=some ⟨b,o,none⟩∧w.cell? ⟨b,o+i * 3,none⟩=some (.int .i64 r.lo)∧w.cell? ⟨b,o+i * 3+1,none⟩=some (.int .i64 r.hi)∧w.cell? ⟨b,o+i * 3+2,none⟩=some (.int .i64 r.p):=by
 obtain ⟨b,o,e,hc⟩:=h.cell i r hr
 exact ⟨b,o,e,hc 0 _ rfl,hc 1 _ rfl,hc 2 _ rfl⟩
def protB (p:Int):Bool:=decide (0≤p) && decide (p≤3)
def rightB (lo hi p:Int):Bool:=decide (0≤lo) && (decide (lo < hi) && protB p)
theorem prot_any (p:Int) (w:World):Calls Tryz.prog 116 #[.int .i64 p] w fun e w'=>e = .returned (.bool (protB p))∧w=w':=by
 unfold protB
 by_cases h1:0≤p
 ·by_cases h2:p≤3
  ·rw [decide_eq_true h1,decide_eq_true h2]
   go_enter Tryz.func116,Tryz.ntmps116
   go_wp2
   go_ret
   exact ⟨rfl,rfl⟩
  ·rw [decide_eq_true h1,decide_eq_false h2]
   go_enter Tryz.func116,Tryz.ntmps116
   go_wp2
   go_ret
   exact ⟨rfl,rfl⟩
 ·rw [decide_eq_false h1]
  go_enter Tryz.func116,Tryz.ntmps116
  go_wp2
  go_ret
  exact ⟨rfl,rfl⟩
theorem right_any (lo hi p:Int) (w:World):Calls Tryz.prog 101 #[.int .i64 lo,.int .i64 hi,.int .i64 p] w fun e w'=>e = .returned (.bool (rightB lo hi p))∧w=w':=by
 obtain ⟨PB,hPB⟩:∃ x,protB p=x:=⟨_,rfl⟩
 have hc:=prot_any p w
 rw [hPB] at hc;have HC:=Lib.hid hc
 unfold rightB
 rw [hPB];clear hc hPB
 by_cases h1:0≤lo
 ·by_cases h2:lo < hi
  ·rw [decide_eq_true h1,decide_eq_true h2]
   go_enter Tryz.func101,Tryz.ntmps101
   go_wp2_with (go_at_call 116;refine HC.out.mono ?_;rintro e w' ⟨rfl,rfl⟩)
   go_ret
   exact ⟨rfl,rfl⟩
  ·rw [decide_eq_true h1,decide_eq_false h2]
   go_enter Tryz.func101,Tryz.ntmps101
   go_wp2
   go_ret
   exact ⟨rfl,rfl⟩
 ·rw [decide_eq_false h1]
  go_enter Tryz.func101,Tryz.ntmps101
  go_wp2
  go_ret
  exact ⟨rfl,rfl⟩
def findR (L:List Rg) (x:Int):Rg:=(L.find? (fun r=>r.has x)).getD ⟨0,0,0⟩
def findB (L:List Rg) (x:Int):Bool:=(L.find? (fun r=>r.has x)).isSome
def Rg.val (r:Rg):Value:=.agg #[.int .i64 r.lo,.int .i64 r.hi,.int .i64 r.p]
theorem drop_at {α:Type} {L:List α} {k:Nat} {r:α} (h:L[k]?=some r):L.drop k=r :: L.drop (k+1):=by
 obtain ⟨h1,h2⟩:=List.getElem?_eq_some_iff.1 h
 rw [List.drop_eq_getElem_cons h1,h2]
set_option linter.unusedSimpArgs false in
set_option linter.unusedVariables false in
set_option maxHeartbeats 1000000 in
theorem find_any (a:Option Addr) (n c:Nat) (L:List Rg) (x:Int) (w:World) (h:RdS Rg.cells 3 w a n c L) (hn:n≤1000) :
  Calls Tryz.prog 70 #[.slice a n c,.int .i64 x] w fun e w'=>e = .returned (.tuple #[(findR L x).val,.bool (findB L x)])∧Below w.heap.size w w':=by
 have H:=Lib.hid h;clear h
 have hba:=(Below.refl w.heap.size w).alloc (Nat.le_refl _) (.cells #[.int .i64 0,.int .i64 0,.int .i64 0] 110)
 have hrow:=heap_alloc_new w (.cells #[.int .i64 0,.int .i64 0,.int .i64 0] 110)
 obtain ⟨wa,hwa⟩:∃ wa,w.alloc (.cells #[.int .i64 0,.int .i64 0,.int .i64 0] 110)=wa:=⟨_,rfl⟩
 obtain ⟨rb,hrb⟩:∃ rb,w.heap.size=rb:=⟨_,rfl⟩
 rw [hwa] at hba hrow;rw [hrb] at hrow;have BA:=Lib.hid hba;have RA:=Lib.hid hrow;have HWA:=Lib.hid hwa;have HRB:=Lib.hid hrb;clear hba hrow hwa hrb
 go_enter Tryz.func70,Tryz.ntmps70
 go_wp2_with (rw [HWA.out,HRB.out])
 go_loopw [10] (fun i wr=>∃ k:Nat,k≤n∧i = .int .i64 k∧Hid (Below w.heap.size w wr∧wr.heap[rb]?=some (.cells #[.int .i64 0,.int .i64 0,.int .i64 0] 110 (0,0))∧L.find? (fun r=>r.has x)=(L.drop k).find? (fun r=>r.has x))) (fun i _=>n - (intOf i).toNat)
 case atStart=>exact ⟨0,by omega,rfl,BA.out,RA.out,rfl⟩
 case round=>
  clear BA RA
  obtain ⟨k,hk,rfl,hh⟩:=hrel
  obtain ⟨h1,h2,h3⟩:=hh.out
  have B:=Lib.hid h1;have R:=Lib.hid h2;have F:=Lib.hid h3;clear hh h1 h2 h3
  by_cases hkn:k < n
  ·have hl:=H.out.len
   obtain ⟨r,hr⟩:∃ r,L[k]?=some r:=⟨L[k],List.getElem?_eq_getElem (by omega)⟩
   obtain ⟨b,o,ha,c0,c1,c2⟩:=(H.out.below B.out).three k r hr
   subst ha
   have hd:=drop_at hr
   have hal:=(Below.refl wr.heap.size wr).alloc (Nat.le_refl _) (.cells #[.int .i64 r.lo,.int .i64 r.hi,.int .i64 r.p] 110)
   have hrow:=row_keep R.out hal
   have hbox:=heap_alloc_new wr (.cells #[.int .i64 r.lo,.int .i64 r.hi,.int .i64 r.p] 110)
   have hb2:=Below.call B.out hal
   have HD:=Lib.hid hd
   obtain ⟨w4,hw4⟩:∃ w4,wr.alloc (.cells #[.int .i64 r.lo,.int .i64 r.hi,.int .i64 r.p] 110)=w4:=⟨_,rfl⟩
   obtain ⟨xb,hxb⟩:∃ xb,wr.heap.size=xb:=⟨_,rfl⟩
   rw [hw4] at hrow hbox hb2;rw [hxb] at hbox;have B2:=Lib.hid hb2;have R2:=Lib.hid hrow;have X2:=Lib.hid hbox;clear hr hl hd hb2 hrow hbox hal
   by_cases hx:r.lo≤x∧x < r.hi
   ·obtain ⟨x1,x2⟩:=hx
    have HF:Hid (findR L x=r∧findB L x=true):=by
     show _∧_
     unfold findR findB
     rw [F.out,HD.out,List.find?_cons_of_pos (by exact Rg.has_iff.2 ⟨x1,x2⟩)]
     exact ⟨rfl,rfl⟩
    obtain ⟨lo,hi,p⟩:=r
    replace x1:lo≤x:=x1
    replace x2:x < hi:=x2
    obtain ⟨p0,p1,p2⟩:=cells3 X2.out
    obtain ⟨q0,q1,q2⟩:=cells3 R2.out
    have hfz:∀ i,w4.frozen? ⟨rb,i,none⟩=false:=fun i=>frozen_of_row w4 rb i _ _ R2.out
    go_wp2_with (rw [hw4])
    have hg:=sets_grown (b:=rb) [(0,.int .i64 lo),(1,.int .i64 hi),(2,.int .i64 p)] w4
    have hr:=sets_row [(0,.int .i64 lo),(1,.int .i64 hi),(2,.int .i64 p)] R2.out
    change bodyPost _ _ _ _ _ (sets w4 rb [(0,.int .i64 lo),(1,.int .i64 hi),(2,.int .i64 p)])
    obtain ⟨w5,hw5⟩:∃ w5,sets w4 rb [(0,.int .i64 lo),(1,.int .i64 hi),(2,.int .i64 p)]=w5:=⟨_,rfl⟩
    rw [hw5] at hg hr ⊢
    obtain ⟨r0,r1,r2⟩:=cells3 (show w5.heap[rb]?=some (.cells #[.int .i64 lo,.int .i64 hi,.int .i64 p] 110 (0,0)) from hr)
    refine bodyPost_ret (v:=.tuple #[.agg #[.int .i64 lo,.int .i64 hi,.int .i64 p],.bool true]) (by simp [results,Tryz.results70,go_sem,r0,r1,r2]) rfl ?_
    rw [HF.out.1,HF.out.2]
    exact ⟨rfl,Below.grown B2.out hg B2.out.size (fun k e=>by injection e with e;have:=HRB.out;omega)⟩
   ·have HF:Hid ((r :: L.drop (k+1)).find? (fun r=>r.has x)=(L.drop (k+1)).find? (fun r=>r.has x)):=by
     show _=_
     exact List.find?_cons_of_neg (fun e=>hx (Rg.has_iff.1 e))
    obtain ⟨lo,hi,p⟩:=r
    obtain ⟨p0,p1,p2⟩:=cells3 X2.out
    by_cases x1:lo≤x
    ·have x2:¬ x < hi:=fun e=>hx ⟨x1,e⟩
     clear hx
     go_wp2_with (rw [hw4])
     go_roundw
     case rel=>exact ⟨k+1,by omega,by go_num,B2.out,R2.out,by rw [F.out,HD.out,HF.out]⟩
     case measure=>simp [intOf] <;> omega
    ·clear hx
     go_wp2_with (rw [hw4])
     go_roundw
     case rel=>exact ⟨k+1,by omega,by go_num,B2.out,R2.out,by rw [F.out,HD.out,HF.out]⟩
     case measure=>simp [intOf] <;> omega
  ·obtain rfl:k=n:=by omega
   have hl:=H.out.len
   have HF:Hid (findR L x=⟨0,0,0⟩∧findB L x=false):=by
    show _∧_
    unfold findR findB
    rw [F.out,List.drop_of_length_le (by omega)]
    exact ⟨rfl,rfl⟩
   obtain ⟨q0,q1,q2⟩:=cells3 R.out
   have hfz:∀ i,wr.frozen? ⟨rb,i,none⟩=false:=fun i=>frozen_of_row wr rb i _ _ R.out
   clear hl
   go_wp2
   have hg:=sets_grown (b:=rb) [(0,.int .i64 0),(1,.int .i64 0),(2,.int .i64 0)] wr
   have hr:=sets_row [(0,.int .i64 0),(1,.int .i64 0),(2,.int .i64 0)] R.out
   change bodyPost _ _ _ _ _ (sets wr rb [(0,.int .i64 0),(1,.int .i64 0),(2,.int .i64 0)])
   obtain ⟨w5,hw5⟩:∃ w5,sets wr rb [(0,.int .i64 0),(1,.int .i64 0),(2,.int .i64 0)]=w5:=⟨_,rfl⟩
   rw [hw5] at hg hr ⊢
   obtain ⟨r0,r1,r2⟩:=cells3 (show w5.heap[rb]?=some (.cells #[.int .i64 0,.int .i64 0,.int .i64 0] 110 (0,0)) from hr)
   refine bodyPost_ret (v:=.tuple #[.agg #[.int .i64 0,.int .i64 0,.int .i64 0],.bool false]) (by simp [results,Tryz.results70,go_sem,r0,r1,r2]) rfl ?_
   rw [HF.out.1,HF.out.2]
   exact ⟨rfl,Below.grown B.out hg B.out.size (fun k e=>by injection e with e;have:=HRB.out;omega)⟩
end Go.Proofs.YtoepnbfifjgpfaaGreat
