/- Maps of any key and element: what a map's block tells, laid, struck, ranged over, entry by entry. The abstract machine, plainly: its state, what an operation is refused for, what it answers and leaves. The two maps of a machine: regions by process, bytes by page. The abstract machine in memory. The closed facts of this program's tables on []byte. The contract of slices.Clone at bytes. -/
import Derived.Test.YtoepnbfifjgpfaaGreatProg
import Derived.Maps.Keyed
import Derived.Maps.RangeWalk
import Derived.Maps.Own
import Derived.ProofKit
import Derived.WalkKit
import Derived.Test.YtoepnbfifjgpfaaGreatMu13
import Derived.Test.YtoepnbfifjgpfaaGreatMu14
import Derived.DeepKeys4
import Derived.Test.YtoepnbfifjgpfaaGreatMu3
import Derived.Test.YtoepnbfifjgpfaaGreatMu1
import Derived.WalkSpells
namespace Go.Proofs.YtoepnbfifjgpfaaGreat
set_option maxRecDepth 100000
open Go.RowKit
open Go.ChangeMaps (setBlock)
/-- A map's type: how a key is written, how an element is. -/
structure MapK (P:Program) (T k e:TypeId) (κ ν:Type) where
 kv:κ→Value
 ok:κ→Prop
 vv:ν→Value
 z:ν
 keyed:Maps.Keyed P k
 under:P.underlying T=some (.map k e)
 lit:∀ s,ok s→∃ l,keyOf P k (kv s)=some l
 kinj:∀ s t,kv s=kv t→s=t
 vinj:∀ s t,vv s=vv t→s=t
 zv:∀ w,(zeroValue e).run P w = .ok (vv z) w
section
variable {P:Program} {T k e:TypeId} {κ ν:Type} (M:MapK P T k e κ ν)
def MapK.pair (p:κ × ν):Value × Value:=(M.kv p.1,M.vv p.2)
def ekv (x:MapEntry):Value × Value:=(x.key,x.val)
/-- What a map's entries are, in whatever order. -/
structure EntG (es:Array MapEntry) (D:List (κ × ν)):Prop where
 perm:(es.toList.map ekv).Perm (D.map M.pair)
 ok:∀ p ∈ D,M.ok p.1
structure MapG (w:World) (b:Nat) (D:List (κ × ν)):Prop where
 all:∃ es clock,w.heap[b]?=some (.map es clock)∧MapKept.Stamped es clock∧EntG M es D
variable {M}
theorem EntG.from {es:Array MapEntry} {D:List (κ × ν)} (h:EntG M es D) {x:MapEntry} (hx:x ∈ es.toList):∃ p ∈ D,x.key=M.kv p.1∧x.val=M.vv p.2:=by
 have:ekv x ∈ D.map M.pair:=h.perm.mem_iff.1 (List.mem_map.2 ⟨x,hx,rfl⟩)
 obtain ⟨p,hp,e1⟩:=List.mem_map.1 this
 unfold MapK.pair ekv at e1
 injection e1 with e2 e3
 exact ⟨p,hp,e2.symm,e3.symm⟩
theorem EntG.to {es:Array MapEntry} {D:List (κ × ν)} (h:EntG M es D) {p:κ × ν} (hp:p ∈ D):∃ x ∈ es.toList,x.key=M.kv p.1∧x.val=M.vv p.2:=by
 have:M.pair p ∈ es.toList.map ekv:=h.perm.mem_iff.2 (List.mem_map.2 ⟨p,hp,rfl⟩)
 obtain ⟨x,hx,e1⟩:=List.mem_map.1 this
 unfold MapK.pair ekv at e1
 injection e1 with e2 e3
 exact ⟨x,hx,e2,e3⟩
theorem EntG.keys {es:Array MapEntry} {D:List (κ × ν)} (h:EntG M es D):∀ x ∈ es.toList,∃ l,keyOf P k x.key=some l:=by
 intro x hx
 obtain ⟨p,hp,e1,_⟩:=h.from hx
 rw [e1]
 exact M.lit _ (h.ok p hp)
theorem EntG.size {es:Array MapEntry} {D:List (κ × ν)} (h:EntG M es D):es.size=D.length:=by
 have:=h.perm.length_eq
 simpa using this
theorem EntG.nodup {es:Array MapEntry} {clock:Nat} {D:List (κ × ν)} (h:EntG M es D) (hst:MapKept.Stamped es clock):(D.map Prod.fst).Nodup:=by
 obtain ⟨_,_,h3⟩:=(MapKept.stamped_iff es clock).1 hst
 have h4:(es.toList.map ekv).Pairwise (fun a b=>a.1 ≠ b.1):=by
  rw [List.pairwise_map]
  exact h3
 have h5:(D.map M.pair).Pairwise (fun a b=>a.1 ≠ b.1):=(h.perm.pairwise_iff (fun hne=>Ne.symm hne)).1 h4
 rw [List.pairwise_map] at h5
 unfold List.Nodup
 rw [List.pairwise_map]
 exact h5.imp (fun hne he=>hne (by unfold MapK.pair;rw [he]))
def kget [DecidableEq κ] (D:List (κ × ν)) (s:κ):Option ν:=(D.find? (fun p=>decide (p.1=s))).map Prod.snd
def kdel [DecidableEq κ] (D:List (κ × ν)) (s:κ):List (κ × ν):=D.filter (fun p=>!decide (p.1=s))
def kput [DecidableEq κ] (D:List (κ × ν)) (s:κ) (v:ν):List (κ × ν):=(s,v) :: kdel D s
theorem kget_none [DecidableEq κ] {D:List (κ × ν)} {s:κ} (h:∀ p ∈ D,p.1 ≠ s):kget D s=none:=by
 unfold kget
 rw [List.find?_eq_none.2 (fun p hp=>by simpa using h p hp)]
 rfl
theorem kget_some [DecidableEq κ] {D:List (κ × ν)} {s:κ} {v:ν} (hn:(D.map Prod.fst).Nodup) (h:(s,v) ∈ D):kget D s=some v:=by
 induction D with
 | nil=>cases h
 | cons p r ih=>
  unfold kget
  rw [List.map_cons,List.nodup_cons] at hn
  rcases List.mem_cons.1 h with rfl | h
  ·simp
  ·have hne:p.1 ≠ s:=fun e1=>hn.1 (by rw [e1];exact List.mem_map.2 ⟨_,h,rfl⟩)
   rw [List.find?_cons_of_neg (by simpa using hne)]
   exact ih hn.2 h
theorem kget_mem [DecidableEq κ] {D:List (κ × ν)} {s:κ} {v:ν} (h:kget D s=some v):(s,v) ∈ D:=by
 unfold kget at h
 obtain ⟨p,hp,rfl⟩:=Option.map_eq_some_iff.1 h
 have h1:=List.mem_of_find?_eq_some hp
 have h2:=List.find?_some hp
 have h3:p.1=s:=by simpa using h2
 rw [← h3]
 exact h1
theorem kget_no [DecidableEq κ] {D:List (κ × ν)} {s:κ} (h:kget D s=none):∀ p ∈ D,p.1 ≠ s:=by
 intro p hp e1
 unfold kget at h
 rw [Option.map_eq_none_iff,List.find?_eq_none] at h
 exact h p hp (by simpa using e1)
theorem kput_mem [DecidableEq κ] {D:List (κ × ν)} {s:κ} {v:ν} {p:κ × ν}:p ∈ kput D s v↔p=(s,v)∨(p ∈ D∧p.1 ≠ s):=by
 unfold kput kdel
 rw [List.mem_cons,List.mem_filter]
 simp
theorem kdel_mem [DecidableEq κ] {D:List (κ × ν)} {s:κ} {p:κ × ν}:p ∈ kdel D s↔(p ∈ D∧p.1 ≠ s):=by
 unfold kdel
 rw [List.mem_filter]
 simp
theorem mg_made (w:World):MapG M (w.alloc (.map #[] 0)) w.heap.size []:=
 ⟨#[],0,heap_alloc_new _ _,MapKept.stamped_empty 0,by simp,fun _ h=>by cases h⟩
theorem MapG.nodup {w:World} {b:Nat} {D:List (κ × ν)} (h:MapG M w b D):(D.map Prod.fst).Nodup:=by
 obtain ⟨es,clock,_,hst,hE⟩:=h.all
 exact hE.nodup hst
theorem MapG.ok {w:World} {b:Nat} {D:List (κ × ν)} (h:MapG M w b D):∀ p ∈ D,M.ok p.1:=by
 obtain ⟨es,clock,_,hst,hE⟩:=h.all
 exact hE.ok
theorem MapG.perm {w:World} {b:Nat} {D D':List (κ × ν)} (h:MapG M w b D) (hp:D.Perm D'):MapG M w b D':=by
 obtain ⟨es,clock,h1,hst,hE⟩:=h.all
 exact ⟨es,clock,h1,hst,hE.perm.trans (hp.map _),fun p hp2=>hE.ok p (hp.mem_iff.2 hp2)⟩
/-- Looking a key up: what the map's block and the key give. -/
theorem ent_find [DecidableEq κ] {es:Array MapEntry} {clock:Nat} {D:List (κ × ν)} (hst:MapKept.Stamped es clock) (hE:EntG M es D) (w:World) (s:κ) (hs:M.ok s) :
  ((Instr.findKey k (M.kv s) es.toList).run P w = .ok none w∧kget D s=none∧∀ x ∈ es.toList,x.key ≠ M.kv s) ∨
  ∃ j x v,(Instr.findKey k (M.kv s) es.toList).run P w = .ok (some (j,M.vv v)) w∧es.toList[j]?=some x∧x.key=M.kv s∧x.val=M.vv v∧kget D s=some v∧(s,v) ∈ D:=by
 obtain ⟨lk,hlk⟩:=M.lit s hs
 rcases M.keyed.find w hlk es.toList hE.keys with ⟨hf,hne⟩ | ⟨j,x,hf,hj,hk⟩
 ·refine .inl ⟨hf,kget_none (fun p hp e1=>?_),hne⟩
  obtain ⟨x,hx,e2,_⟩:=hE.to hp
  exact hne x hx (by rw [e2,e1])
 ·obtain ⟨p,hp,e1,e2⟩:=hE.from (List.mem_of_getElem? hj)
  have:p.1=s:=M.kinj _ _ (by rw [← e1,hk])
  have hm:(s,p.2) ∈ D:=by rw [← this];exact hp
  exact .inr ⟨j,x,p.2,by rw [hf,e2],hj,hk,e2,kget_some (hE.nodup hst) hm,hm⟩
theorem mg_look [DecidableEq κ] {w:World} {b:Nat} {D:List (κ × ν)} (h:MapG M w b D) (s:κ) (hs:M.ok s) :
  (Instr.lookup T (.map (some b)) (M.kv s) false).run P w = .ok (M.vv ((kget D s).getD M.z)) w:=by
 obtain ⟨es,clock,hb,hst,hE⟩:=h.all
 obtain ⟨lk,hlk⟩:=M.lit s hs
 have hchk:=M.keyed.check w es.isEmpty hlk
 have hz:=M.zv w
 rcases ent_find hst hE w s hs with ⟨hf,h0,_⟩ | ⟨j,x,v,hf,_,_,_,h0,_⟩
 ·rw [h0]
  simp [Instr.lookup,run_underlying M.under,MapKept.run_getObj_map hb,hchk,hf,hz,Result.andThen]
 ·rw [h0]
  simp [Instr.lookup,run_underlying M.under,MapKept.run_getObj_map hb,hchk,hf,Result.andThen]
theorem mg_look2 [DecidableEq κ] {w:World} {b:Nat} {D:List (κ × ν)} (h:MapG M w b D) (s:κ) (hs:M.ok s) :
  (Instr.lookup T (.map (some b)) (M.kv s) true).run P w = .ok (.tuple #[M.vv ((kget D s).getD M.z),.bool (kget D s).isSome]) w:=by
 obtain ⟨es,clock,hb,hst,hE⟩:=h.all
 obtain ⟨lk,hlk⟩:=M.lit s hs
 have hchk:=M.keyed.check w es.isEmpty hlk
 have hz:=M.zv w
 rcases ent_find hst hE w s hs with ⟨hf,h0,_⟩ | ⟨j,x,v,hf,_,_,_,h0,_⟩
 ·rw [h0]
  simp [Instr.lookup,run_underlying M.under,MapKept.run_getObj_map hb,hchk,hf,hz,Result.andThen]
 ·rw [h0]
  simp [Instr.lookup,run_underlying M.under,MapKept.run_getObj_map hb,hchk,hf,Result.andThen]
theorem blk_set {w:World} {b:Nat} {o o':Obj} (hb:w.heap[b]?=some o):(setBlock w b o').heap[b]?=some o':=by
 have:=(Array.getElem?_eq_some_iff.1 hb).1
 simp [setBlock,this]
theorem blk_grown (w:World) (b:Nat) (o':Obj):w.grownBy (setBlock w b o') (some b):=
 ⟨rfl,rfl,rfl,by simp [setBlock],fun i _ hi=>by
  have:b ≠ i:=fun e=>hi (by rw [e])
  simp [setBlock,Array.getElem?_setIfInBounds_ne this]⟩
theorem st_apart {es:Array MapEntry} {clock:Nat} (h:MapKept.Stamped es clock) {i j:Nat} {d x:MapEntry} (hi:es.toList[i]?=some d) (hj:es.toList[j]?=some x) (hk:d.key=x.key):i=j:=by
 obtain ⟨_,_,h3⟩:=(MapKept.stamped_iff es clock).1 h
 rw [List.pairwise_iff_getElem] at h3
 obtain ⟨li,ei⟩:=List.getElem?_eq_some_iff.1 hi
 obtain ⟨lj,ej⟩:=List.getElem?_eq_some_iff.1 hj
 rcases Nat.lt_trichotomy i j with h | h | h
 ·exact absurd (by rw [ei,ej];exact hk) (h3 i j li lj h)
 ·exact h
 ·exact absurd (by rw [ei,ej];exact hk.symm) (h3 j i lj li h)
theorem set_perm {α:Type} (l:List α) (j:Nat) (a:α) (h:j < l.length):(l.set j a).Perm (a :: l.eraseIdx j):=by
 rw [List.set_eq_take_append_cons_drop,if_pos h,List.eraseIdx_eq_take_drop_succ]
 exact List.perm_middle
/-- The entries without the one at a key. -/
theorem ent_without [DecidableEq κ] {es:Array MapEntry} {clock:Nat} {D:List (κ × ν)} (hst:MapKept.Stamped es clock) (hE:EntG M es D) {s:κ} {j:Nat} {x:MapEntry} (hj:es.toList[j]?=some x) (hk:x.key=M.kv s):((es.toList.eraseIdx j).map ekv).Perm ((kdel D s).map M.pair):=by
 classical
 have hjl:j < es.toList.length:=(List.getElem?_eq_some_iff.1 hj).1
 have h1:es.toList.eraseIdx j=es.toList.filter (fun y=>!decide (y.key=M.kv s)):=by
  have h2:es.toList=es.toList.take j ++ x :: es.toList.drop (j+1):=by
   have e1:es.toList[j]=x:=(List.getElem?_eq_some_iff.1 hj).2
   rw [← e1,← List.drop_eq_getElem_cons hjl,List.take_append_drop]
  rw [List.eraseIdx_eq_take_drop_succ]
  have h3:∀ y ∈ es.toList.take j,decide (y.key=M.kv s)=false:=fun y hy=>by
   obtain ⟨i,hi,e1⟩:=List.mem_take_iff_getElem.1 hy
   rw [decide_eq_false_iff_not];intro e2
   have hil:i < es.toList.length:=by omega
   have:=st_apart hst (i:=i) (j:=j) (List.getElem?_eq_some_iff.2 ⟨hil,e1⟩) hj (by rw [e2,hk])
   omega
  have h4:∀ y ∈ es.toList.drop (j+1),decide (y.key=M.kv s)=false:=fun y hy=>by
   obtain ⟨i,hi⟩:=List.getElem?_of_mem hy
   rw [List.getElem?_drop] at hi;rw [decide_eq_false_iff_not];intro e2
   have:=st_apart hst hi hj (by rw [e2,hk])
   omega
  conv=>rhs;rw [h2]
  rw [List.filter_append,List.filter_cons,if_neg (by simp [hk]),List.filter_eq_self.2 (fun y hy=>by simp [h3 y hy]),List.filter_eq_self.2 (fun y hy=>by simp [h4 y hy])]
 rw [h1]
 have h5:(es.toList.filter (fun y=>!decide (y.key=M.kv s))).map ekv=(es.toList.map ekv).filter (fun q=>!decide (q.1=M.kv s)):=by
  rw [List.filter_map];rfl
 have h6:(kdel D s).map M.pair=(D.map M.pair).filter (fun q=>!decide (q.1=M.kv s)):=by
  rw [List.filter_map]
  unfold kdel
  congr 1
  refine List.filter_congr (fun p _=>?_)
  have:(M.kv p.1=M.kv s)↔(p.1=s):=⟨M.kinj _ _,fun e1=>by rw [e1]⟩
  simp [MapK.pair,this]
 rw [h5,h6]
 exact hE.perm.filter _
theorem kdel_self [DecidableEq κ] {D:List (κ × ν)} {s:κ} (h:kget D s=none):kdel D s=D:=by
 unfold kdel
 exact List.filter_eq_self.2 (fun p hp=>by simpa using kget_no h p hp)
theorem mg_put [DecidableEq κ] {w:World} {b:Nat} {D:List (κ × ν)} (h:MapG M w b D) (s:κ) (v:ν) (hs:M.ok s) :
  ∃ w',(Instr.mapUpdate T (.map (some b)) (M.kv s) (M.vv v)).run P w = .ok () w'∧MapG M w' b (kput D s v)∧w.grownBy w' (some b)∧w'.heap.size=w.heap.size:=by
 obtain ⟨es,clock,hb,hst,hE⟩:=h.all
 obtain ⟨lk,hlk⟩:=M.lit s hs
 have hok:∀ p ∈ kput D s v,M.ok p.1:=fun p hp=>by
  rcases kput_mem.1 hp with rfl | ⟨hp,_⟩
  ·exact hs
  ·exact hE.ok p hp
 rcases ent_find hst hE w s hs with ⟨h1,h0,h2⟩ | ⟨j,x,v0,h1,h2,h3,h4,h0,hm⟩
 ·refine ⟨setBlock w b (.map (es.push ⟨M.kv s,M.vv v,clock⟩) (clock+1)),by simp [Instr.mapUpdate,run_underlying M.under,MapKept.run_getObj_map hb,M.keyed.check w false hlk,h1,MapKept.run_setObj_map _ hb,Result.andThen,setBlock],
   ⟨_,_,blk_set hb,MapKept.stamped_push hst h2,?_,hok⟩,blk_grown _ _ _,by simp [setBlock]⟩
  unfold kput
  rw [kdel_self h0,Array.toList_push,List.map_append]
  exact List.perm_append_comm.trans (List.Perm.cons _ hE.perm)
 ·have hj:es[j]?=some x:=by simpa using h2
  have hjl:j < es.toList.length:=(List.getElem?_eq_some_iff.1 h2).1
  have hst2:=MapKept.stamped_modify hst j (fun e'=>{ e' with key:=M.kv s,val:=M.vv v }) (fun _ _=>rfl) (fun y _ he=>by rw [hj] at he;injection he with he;rw [← he,h3])
  refine ⟨setBlock w b (.map (es.modify j (fun e'=>{ e' with key:=M.kv s,val:=M.vv v })) clock),by simp [Instr.mapUpdate,run_underlying M.under,MapKept.run_getObj_map hb,M.keyed.check w false hlk,h1,hj,h3,M.keyed.stays w hlk,MapKept.run_setObj_map _ hb,Result.andThen,setBlock],
   ⟨_,_,blk_set hb,hst2,?_,hok⟩,blk_grown _ _ _,by simp [setBlock]⟩
  have e1:(es.modify j (fun e'=>{ e' with key:=M.kv s,val:=M.vv v })).toList=es.toList.set j { x with key:=M.kv s,val:=M.vv v }:=by
   apply List.ext_getElem?
   intro i;rw [Array.getElem?_toList,Array.getElem?_modify,List.getElem?_set]
   by_cases hij:j=i
   ·subst hij
    rw [if_pos rfl,if_pos rfl,if_pos hjl,hj];rfl
   ·rw [if_neg hij,if_neg hij,Array.getElem?_toList]
  rw [e1]
  refine ((set_perm es.toList j _ hjl).map ekv).trans ?_
  rw [List.map_cons]
  exact List.Perm.cons _ (ent_without hst hE h2 h3)
theorem mg_del [DecidableEq κ] {w:World} {b:Nat} {D:List (κ × ν)} (h:MapG M w b D) (s:κ) (hs:M.ok s) (t ty:TypeId) :
  ∃ w',(Builtin.delete_ #[T,t] ty #[.map (some b),M.kv s]).run P w = .ok (.tuple #[]) w'∧MapG M w' b (kdel D s)∧w.grownBy w' (some b)∧w'.heap.size=w.heap.size:=by
 obtain ⟨es,clock,hb,hst,hE⟩:=h.all
 obtain ⟨lk,hlk⟩:=M.lit s hs
 have hok:∀ p ∈ kdel D s,M.ok p.1:=fun p hp=>hE.ok p (kdel_mem.1 hp).1
 rcases ent_find hst hE w s hs with ⟨h1,h0,h2⟩ | ⟨j,x,v0,h1,h2,h3,h4,h0,hm⟩
 ·refine ⟨setBlock w b (.map es clock),by simp [Builtin.delete_,run_underlying M.under,MapKept.run_getObj_map hb,M.keyed.check w _ hlk,h1,MapKept.run_setObj_map _ hb,Result.andThen,setBlock],
   ⟨es,clock,blk_set hb,hst,by rw [kdel_self h0];exact hE.perm,hok⟩,blk_grown _ _ _,by simp [setBlock]⟩
 ·have hjl:j < es.toList.length:=(List.getElem?_eq_some_iff.1 h2).1
  have hjs:j < es.size:=by simpa using hjl
  have hsub:(es.eraseIdxIfInBounds j).toList=es.toList.eraseIdx j:=by
   unfold Array.eraseIdxIfInBounds
   rw [dif_pos hjs]
   simp
  refine ⟨setBlock w b (.map (es.eraseIdxIfInBounds j) clock),by simp [Builtin.delete_,run_underlying M.under,MapKept.run_getObj_map hb,M.keyed.check w _ hlk,h1,MapKept.run_setObj_map _ hb,Result.andThen,setBlock],
   ⟨_,clock,blk_set hb,MapKept.stamped_erase hst j,by rw [hsub];exact ent_without hst hE h2 h3,hok⟩,blk_grown _ _ _,by simp [setBlock]⟩
theorem mg_len {w:World} {b:Nat} {D:List (κ × ν)} (h:MapG M w b D):∃ es clock,w.heap[b]?=some (.map es clock)∧es.size=D.length:=by
 obtain ⟨es,clock,hb,_,hE⟩:=h.all
 exact ⟨es,clock,hb,hE.size⟩
theorem MapG.lt {w:World} {b:Nat} {D:List (κ × ν)} (h:MapG M w b D):b < w.heap.size:=by
 obtain ⟨es,clock,hb,_⟩:=h.all
 exact (Array.getElem?_eq_some_iff.1 hb).1
theorem MapG.at {w w':World} {b:Nat} {D:List (κ × ν)} (h:MapG M w b D) (hb:w'.heap[b]?=w.heap[b]?):MapG M w' b D:=by
 obtain ⟨es,clock,h1,h2⟩:=h.all
 exact ⟨es,clock,hb.trans h1,h2⟩
theorem MapG.grown {w w':World} {b:Nat} {D:List (κ × ν)} {row:Option Nat} (h:MapG M w b D) (hg:w.grownBy w' row) (hne:some b ≠ row):MapG M w' b D:=
 h.at (hg.block b h.lt hne)
/-- 'for s, v := range m' under way: L are the entries still to come. -/
structure IterG (M:MapK P T k e κ ν) (w:World) (b r:Nat) (D L:List (κ × ν)):Prop where
 all:∃ es clock since seen c0,w.heap[b]?=some (.map es clock)∧MapKept.Stamped es clock∧EntG M es D∧w.heap[r]?=some (.mapIter (some b) since seen c0) ∧
  (∀ x ∈ es.toList,x.born < since)∧since≤c0∧since≤clock∧((leftOf es seen).toList.map ekv).Perm (L.map M.pair)∧∀ p ∈ L,p ∈ D
theorem IterG.map {w:World} {b r:Nat} {D L:List (κ × ν)} (h:IterG M w b r D L):MapG M w b D:=by
 obtain ⟨es,clock,_,_,_,h1,h2,h3,_⟩:=h.all
 exact ⟨es,clock,h1,h2,h3⟩
theorem IterG.ne {w:World} {b r:Nat} {D L:List (κ × ν)} (h:IterG M w b r D L):r ≠ b:=by
 obtain ⟨es,clock,_,_,_,h1,_,_,h2,_⟩:=h.all
 intro e;rw [e,h1] at h2
 cases h2
theorem IterG.lt {w:World} {b r:Nat} {D L:List (κ × ν)} (h:IterG M w b r D L):r < w.heap.size:=by
 obtain ⟨es,clock,_,_,_,_,_,_,h2,_⟩:=h.all
 exact (Array.getElem?_eq_some_iff.1 h2).1
theorem IterG.grown {w w':World} {b r:Nat} {D L:List (κ × ν)} {row:Option Nat} (h:IterG M w b r D L) (hg:w.grownBy w' row) (hb:some b ≠ row) (hr:some r ≠ row):IterG M w' b r D L:=by
 have l1:=h.map.lt
 have l2:=h.lt
 obtain ⟨es,clock,since,seen,c0,h1,h2,h3,h4,h5⟩:=h.all
 exact ⟨es,clock,since,seen,c0,(hg.block b l1 hb).trans h1,h2,h3,(hg.block r l2 hr).trans h4,h5⟩
theorem IterG.left {w:World} {b r:Nat} {D L:List (κ × ν)} (h:IterG M w b r D L):w.rangeLeft b r=L.length:=by
 obtain ⟨es,clock,since,seen,c0,h1,h2,h3,h4,_,_,_,h5,_⟩:=h.all
 have:=h5.length_eq
 simp only [List.length_map,Array.length_toList] at this
 simp only [World.rangeLeft,h1,h4]
 exact this
theorem mg_range {w:World} {b:Nat} {D:List (κ × ν)} (h:MapG M w b D) :
  ∃ w',(Instr.range T (.map (some b))).run P w = .ok (.pointer (some ⟨w.heap.size,0,none⟩)) w'∧IterG M w' b w.heap.size D D∧w.grownBy w' none∧w'.heap.size=w.heap.size+1:=by
 have hlt:=h.lt
 obtain ⟨es,clock,hb,hst,hE⟩:=h.all
 refine ⟨_,run_range_map w _ _ _ b es clock M.under hb,⟨es,clock,clock,#[],clock,((MapKept.heap_alloc w _).2 b hlt).trans hb,hst,hE,(MapKept.heap_alloc w _).1,hst.1,Nat.le_refl _,Nat.le_refl _,?_,fun _ h=>h⟩,World.grownBy_alloc w _ none,by simp⟩
 have:leftOf es #[]=es:=by
  unfold leftOf
  exact Array.filter_eq_self.2 (fun x _=>by simp)
 rw [this]
 exact hE.perm
theorem left_push {es:Array MapEntry} {clock:Nat} {seen:Array Nat} {x:MapEntry} (hst:MapKept.Stamped es clock) (hx:x ∈ (leftOf es seen).toList):(leftOf es seen).toList.Perm (x :: (leftOf es (seen.push x.born)).toList):=by
 have hborn:(es.toList.map (·.born)).Nodup:=hst.2.1
 have e1:(leftOf es (seen.push x.born)).toList=(leftOf es seen).toList.filter (fun y=>!decide (y.born=x.born)):=by
  unfold leftOf
  rw [Array.toList_filter,Array.toList_filter,List.filter_filter]
  refine List.filter_congr (fun y _=>?_)
  by_cases h:y.born=x.born <;> simp [h]
 have hsub:(leftOf es seen).toList.Sublist es.toList:=by
  unfold leftOf
  rw [Array.toList_filter]
  exact List.filter_sublist
 have hn:((leftOf es seen).toList.map (·.born)).Nodup:=hborn.sublist (hsub.map _)
 rw [e1]
 generalize (leftOf es seen).toList=l at hx hn
 induction l with
 | nil=>cases hx
 | cons y r ih=>
  rw [List.map_cons,List.nodup_cons] at hn
  rcases List.mem_cons.1 hx with rfl | hx
  ·rw [List.filter_cons,if_neg (by simp),List.filter_eq_self.2 (fun z hz=>by
    have:z.born ≠ x.born:=fun e2=>hn.1 (by rw [← e2];exact List.mem_map.2 ⟨z,hz,rfl⟩)
    simpa using this)]
  ·have hne:y.born ≠ x.born:=fun e2=>hn.1 (by rw [e2];exact List.mem_map.2 ⟨x,hx,rfl⟩)
   rw [List.filter_cons,if_pos (by simpa using hne)]
   exact (List.Perm.cons y (ih hx hn.2)).trans (List.Perm.swap x y _)
theorem ig_next {w:World} {b r:Nat} {D L:List (κ × ν)} (h:IterG M w b r D L) (ty:TypeId) :
  (L=[]∧(Instr.next (.pointer (some ⟨r,0,none⟩)) false ty).run P w = .ok (.tuple #[.bool false]) w) ∨
  ∃ p L' w',L.Perm (p :: L')∧p ∈ D∧(Instr.next (.pointer (some ⟨r,0,none⟩)) false ty).run P w = .ok (.tuple #[.bool true,M.kv p.1,M.vv p.2]) w' ∧
   IterG M w' b r D L'∧w.grownBy w' (some r)∧w'.heap.size=w.heap.size∧(Instr.entry (.pointer (some ⟨r,0,none⟩))).run P w' = .ok (.tuple #[M.kv p.1,M.vv p.2]) w':=by
 have hne:=h.ne
 obtain ⟨es,clock,since,seen,c0,hb,hst,hE,hr,hold,hsc,hsk,hl,hsubL⟩:=h.all
 rcases run_next_at (P:=P) w ty r b since c0 seen es clock hr hb hold hsc with ⟨h0,hrun⟩ | ⟨x,hx,w1,hal,hrun⟩
 ·refine .inl ⟨?_,hrun⟩
  have:=hl.length_eq
  simp only [List.length_map,Array.length_toList,h0] at this
  exact List.length_eq_zero_iff.1 this.symm
 ·right
  have hem:x ∈ es.toList:=by
   unfold leftOf at hx
   simp at hx
   simpa using hx.1
  have hp0:=left_push hst hx
  obtain ⟨p,hpL,k1,k3⟩:∃ p ∈ L,x.key=M.kv p.1∧x.val=M.vv p.2:=by
   have:ekv x ∈ L.map M.pair:=hl.mem_iff.1 (List.mem_map.2 ⟨x,hx,rfl⟩)
   obtain ⟨p,hp,e1⟩:=List.mem_map.1 this
   unfold MapK.pair ekv at e1
   injection e1 with e2 e3
   exact ⟨p,hp,e2.symm,e3.symm⟩
  obtain ⟨A,B,hAB⟩:=List.append_of_mem hpL
  have hLp:L.Perm (p :: (A ++ B)):=by rw [hAB];exact List.perm_middle
  have hl2:((leftOf es (seen.push x.born)).toList.map ekv).Perm ((A ++ B).map M.pair):=by
   have q1:(ekv x :: (leftOf es (seen.push x.born)).toList.map ekv).Perm (M.pair p :: (A ++ B).map M.pair):=by
    have:=((hp0.map ekv).symm.trans hl).trans (hLp.map M.pair)
    simpa using this
   have q2:ekv x=M.pair p:=by unfold ekv MapK.pair;rw [k1,k3]
   rw [q2] at q1
   exact (List.perm_cons _).1 q1
  have hr1:w1.heap[r]?=some (.mapIter (some b) since seen c0):=by rcases hal with rfl | rfl <;> exact hr
  have hb1:w1.heap[b]?=some (.map es clock):=by rcases hal with rfl | rfl <;> exact hb
  have hb2:(setBlock w1 r (.mapIter (some b) since (seen.push x.born) clock)).heap[b]?=some (.map es clock):=by
   rw [(blk_grown w1 r _).block b (Array.getElem?_eq_some_iff.1 hb1).1 (fun q=>hne (by injection q with q;exact q.symm))]
   exact hb1
  have hr2:(setBlock w1 r (.mapIter (some b) since (seen.push x.born) clock)).heap[r]?=some (.mapIter (some b) since (seen.push x.born) clock):=blk_set hr1
  have hg:w.grownBy (setBlock w1 r (.mapIter (some b) since (seen.push x.born) clock)) (some r):=by
   have:=blk_grown w1 r (.mapIter (some b) since (seen.push x.born) clock)
   rcases hal with rfl | rfl
   ·exact this
   ·exact ⟨this.os,this.tape,this.output,this.size,this.block⟩
  have hen:=run_entry_at (P:=P) _ r b since seen es clock x hr2 hb2 hem hst.2.1
  refine ⟨p,A ++ B,_,hLp,hsubL p hpL,by rw [hrun,k1,k3],⟨es,clock,since,_,clock,hb2,hst,hE,hr2,hold,hsk,hsk,hl2,fun q hq=>hsubL q (hLp.mem_iff.2 (List.mem_cons_of_mem _ hq))⟩,hg,?_,by rw [hen,k1,k3]⟩
  rcases hal with rfl | rfl <;> simp [setBlock]
/-- 'delete(m, s)' of a key that is not still to come, the range under way. -/
theorem ig_del [DecidableEq κ] {w:World} {b r:Nat} {D L:List (κ × ν)} (h:IterG M w b r D L) (s:κ) (hs:M.ok s) (hL:∀ p ∈ L,p.1 ≠ s) (t ty:TypeId) :
  ∃ w',(Builtin.delete_ #[T,t] ty #[.map (some b),M.kv s]).run P w = .ok (.tuple #[]) w'∧IterG M w' b r (kdel D s) L∧w.grownBy w' (some b)∧w'.heap.size=w.heap.size:=by
 have hne:=h.ne
 obtain ⟨es,clock,since,seen,c0,hb,hst,hE,hr,hold,hsc,hsk,hl,hsubL⟩:=h.all
 obtain ⟨lk,hlk⟩:=M.lit s hs
 have hok:∀ p ∈ kdel D s,M.ok p.1:=fun p hp=>hE.ok p (kdel_mem.1 hp).1
 have hsub2:∀ p ∈ L,p ∈ kdel D s:=fun p hp=>kdel_mem.2 ⟨hsubL p hp,hL p hp⟩
 have hr2:∀ o,(setBlock w b o).heap[r]?=some (.mapIter (some b) since seen c0):=fun o=>by
  rw [(blk_grown w b o).block r (Array.getElem?_eq_some_iff.1 hr).1 (fun q=>hne (by injection q with q))]
  exact hr
 rcases ent_find hst hE w s hs with ⟨h1,h0,h2⟩ | ⟨j,x,v0,h1,h2,h3,h4,h0,hm⟩
 ·refine ⟨setBlock w b (.map es clock),by simp [Builtin.delete_,run_underlying M.under,MapKept.run_getObj_map hb,M.keyed.check w _ hlk,h1,MapKept.run_setObj_map _ hb,Result.andThen,setBlock],
   ⟨es,clock,since,seen,c0,blk_set hb,hst,⟨by rw [kdel_self h0];exact hE.perm,hok⟩,hr2 _,hold,hsc,hsk,hl,hsub2⟩,blk_grown _ _ _,by simp [setBlock]⟩
 ·have hjl:j < es.toList.length:=(List.getElem?_eq_some_iff.1 h2).1
  have hjs:j < es.size:=by simpa using hjl
  have hsub:(es.eraseIdxIfInBounds j).toList=es.toList.eraseIdx j:=by
   unfold Array.eraseIdxIfInBounds
   rw [dif_pos hjs]
   simp
  have hin:∀ y ∈ (es.eraseIdxIfInBounds j).toList,y ∈ es.toList:=fun y hy=>by rw [hsub] at hy;exact (List.eraseIdx_sublist _ _).subset hy
  have hxs:(!seen.contains x.born)=false:=by
   cases hc:(!seen.contains x.born) with
   | false=>rfl
   | true=>
    exfalso
    have hx1:x ∈ (leftOf es seen).toList:=by
     unfold leftOf
     rw [Array.toList_filter,List.mem_filter]
     exact ⟨List.mem_of_getElem? h2,hc⟩
    have:ekv x ∈ L.map M.pair:=hl.mem_iff.1 (List.mem_map.2 ⟨x,hx1,rfl⟩)
    obtain ⟨p,hp,e1⟩:=List.mem_map.1 this
    unfold MapK.pair ekv at e1
    injection e1 with e2 e3
    exact hL p hp (M.kinj _ _ (by rw [e2,h3]))
  have hl2:(leftOf (es.eraseIdxIfInBounds j) seen).toList=(leftOf es seen).toList:=by
   unfold leftOf
   rw [Array.toList_filter,Array.toList_filter,hsub,List.eraseIdx_eq_take_drop_succ,List.filter_append]
   have e1:es.toList[j]=x:=(List.getElem?_eq_some_iff.1 h2).2
   have e2:es.toList=es.toList.take j ++ x :: es.toList.drop (j+1):=by
    rw [← e1,← List.drop_eq_getElem_cons hjl,List.take_append_drop]
   conv=>rhs;rw [e2]
   rw [List.filter_append,List.filter_cons,if_neg (by rw [hxs];simp)]
  refine ⟨setBlock w b (.map (es.eraseIdxIfInBounds j) clock),by simp [Builtin.delete_,run_underlying M.under,MapKept.run_getObj_map hb,M.keyed.check w _ hlk,h1,MapKept.run_setObj_map _ hb,Result.andThen,setBlock],
   ⟨_,clock,since,seen,c0,blk_set hb,MapKept.stamped_erase hst j,⟨by rw [hsub];exact ent_without hst hE h2 h3,hok⟩,hr2 _,fun y hy=>hold y (hin y hy),hsc,hsk,by rw [hl2];exact hl,hsub2⟩,blk_grown _ _ _,by simp [setBlock]⟩
end
/-- A store's shape. -/
structure Cf where
 a0:Int
 a1:Int
 a2:Int
 a3:Int
 page:Int
 a5:Int
 procs:Int
 regions:Int
 pages:Int
/-- An operation. -/
structure Opn where
 kind:Int
 pid:Int
 at_:Int
 n:Int
 prot:Int
 data:List Int
/-- A machine: its shape, the numbers taken, regions and stored pages by process. -/
structure Mc where
 c:Cf
 v:BitVec 64
 rs:Int→List Rg
 ms:Int→List (Int × List Int)
def Mc.pr (st:Mc):Nat:=st.c.procs.toNat
def Mc.has (st:Mc) (p:Int):Bool:=hasB st.c.procs st.v p
/-- Pages by number, rising. -/
def SrtP (L:List (Int × List Int)):Prop:=L.Pairwise (fun x y=>x.1 < y.1)
def pgSet:List (Int × List Int)→Int→List Int→List (Int × List Int)
 | [],n,b=>[(n,b)]
 | x :: r,n,b=>if n < x.1 then (n,b) :: x :: r else if n=x.1 then (n,b) :: r else x :: pgSet r n b
theorem pgSet_mem:∀ {L:List (Int × List Int)} {n:Int} {b:List Int} {p:Int × List Int},SrtP L→(p ∈ pgSet L n b↔p=(n,b)∨(p ∈ L∧p.1 ≠ n))
 | [],n,b,p,_=>by simp [pgSet]
 | x :: r,n,b,p,h=>by
  have h1:=(List.pairwise_cons.1 h).1
  have h2:=(List.pairwise_cons.1 h).2
  rw [pgSet]
  by_cases e1:n < x.1
  ·rw [if_pos e1]
   have hne:∀ q ∈ x :: r,q.1 ≠ n:=fun q hq=>by
    rcases List.mem_cons.1 hq with rfl | hq
    ·omega
    ·have:=h1 q hq;omega
   rw [List.mem_cons]
   constructor
   ·rintro (e | hq)
    ·exact .inl e
    ·exact .inr ⟨hq,hne p hq⟩
   ·rintro (e | ⟨hq,_⟩)
    ·exact .inl e
    ·exact .inr hq
  ·rw [if_neg e1]
   by_cases e2:n=x.1
   ·rw [if_pos e2,List.mem_cons,List.mem_cons]
    constructor
    ·rintro (e | hq)
     ·exact .inl e
     ·exact .inr ⟨.inr hq,by have:=h1 p hq;omega⟩
    ·rintro (e | ⟨e | hq,hn⟩)
     ·exact .inl e
     ·rw [e] at hn;exact absurd e2.symm hn
     ·exact .inr hq
   ·rw [if_neg e2,List.mem_cons,List.mem_cons,pgSet_mem h2]
    constructor
    ·rintro (e | e | ⟨hq,hn⟩)
     ·exact .inr ⟨.inl e,by rw [e];omega⟩
     ·exact .inl e
     ·exact .inr ⟨.inr hq,hn⟩
    ·rintro (e | ⟨e | hq,hn⟩)
     ·exact .inr (.inl e)
     ·exact .inl e
     ·exact .inr (.inr ⟨hq,hn⟩)
theorem pgSet_srt:∀ {L:List (Int × List Int)} {n:Int} {b:List Int},SrtP L→SrtP (pgSet L n b)
 | [],n,b,_=>by simp [pgSet,SrtP]
 | x :: r,n,b,h=>by
  have h1:=(List.pairwise_cons.1 h).1
  have h2:=(List.pairwise_cons.1 h).2
  rw [pgSet]
  by_cases e1:n < x.1
  ·rw [if_pos e1]
   refine List.pairwise_cons.2 ⟨fun q hq=>?_,h⟩
   rcases List.mem_cons.1 hq with rfl | hq
   ·exact e1
   ·have:=h1 q hq
    show n < q.1
    omega
  ·rw [if_neg e1]
   by_cases e2:n=x.1
   ·rw [if_pos e2]
    exact List.pairwise_cons.2 ⟨fun q hq=>by have:=h1 q hq;show n < q.1;omega,h2⟩
   ·rw [if_neg e2]
    refine List.pairwise_cons.2 ⟨fun q hq=>?_,pgSet_srt h2⟩
    rcases (pgSet_mem h2).1 hq with rfl | ⟨hq,_⟩
    ·show x.1 < n
     omega
    ·exact h1 q hq
theorem SrtP.nodup {L:List (Int × List Int)} (h:SrtP L):(L.map Prod.fst).Nodup:=by
 unfold List.Nodup
 rw [List.pairwise_map]
 exact h.imp (fun hlt=>by omega)
theorem kget_iff {L:List (Int × List Int)} (h:SrtP L) {n:Int} {b:List Int}:kget L n=some b↔(n,b) ∈ L:=⟨kget_mem,kget_some h.nodup⟩
theorem kget_pgSet {L:List (Int × List Int)} (h:SrtP L) (n k:Int) (b:List Int):kget (pgSet L n b) k=if k=n then some b else kget L k:=by
 by_cases e:k=n
 ·rw [if_pos e,kget_iff (pgSet_srt h),pgSet_mem h]
  exact .inl (by rw [e])
 ·rw [if_neg e]
  cases hk:kget L k with
  | none=>
   refine kget_none (fun p hp e1=>?_)
   rcases (pgSet_mem h).1 hp with rfl | ⟨hp,_⟩
   ·exact e e1.symm
   ·exact kget_no hk p hp e1
  | some c=>
   rw [kget_iff (pgSet_srt h),pgSet_mem h]
   exact .inr ⟨kget_mem hk,e⟩
theorem srt_ext {L M:List (Int × List Int)} (hL:SrtP L) (hM:SrtP M) (h:∀ p,p ∈ L↔p ∈ M):L=M:=by
 induction L generalizing M with
 | nil=>
  cases M with
  | nil=>rfl
  | cons y s=>exact absurd ((h y).2 (List.mem_cons_self ..)) (by simp)
 | cons x r ih=>
  cases M with
  | nil=>exact absurd ((h x).1 (List.mem_cons_self ..)) (by simp)
  | cons y s=>
   have hx:=List.pairwise_cons.1 hL
   have hy:=List.pairwise_cons.1 hM
   have e:x=y:=by
    rcases List.mem_cons.1 ((h x).1 (List.mem_cons_self ..)) with e | e1
    ·exact e
    ·rcases List.mem_cons.1 ((h y).2 (List.mem_cons_self ..)) with e | e2
     ·exact e.symm
     ·have a1:=hx.1 y e2
      have a2:=hy.1 x e1
      omega
   subst e
   congr 1
   refine ih hx.2 hy.2 (fun p=>⟨fun hp=>?_,fun hp=>?_⟩)
   ·rcases List.mem_cons.1 ((h p).1 (List.mem_cons_of_mem _ hp)) with rfl | h1
    ·have:=hx.1 p hp;omega
    ·exact h1
   ·rcases List.mem_cons.1 ((h p).2 (List.mem_cons_of_mem _ hp)) with rfl | h1
    ·have:=hy.1 p hp;omega
    ·exact h1
/-- A page's bytes. -/
def zeroP (page:Int):List Int:=List.replicate page.toNat 0
def pgB (page:Int) (L:List (Int × List Int)) (n:Int):List Int:=(kget L n).getD (zeroP page)
/-- A byte stored, bytes stored, bytes loaded. -/
def stOne (page:Int) (L:List (Int × List Int)) (k x:Int):List (Int × List Int):=pgSet L (k / page) ((pgB page L (k / page)).set (k % page).toNat x)
def storeL (page:Int):List (Int × List Int)→Int→List Int→List (Int × List Int)
 | L,_,[]=>L
 | L,k,x :: r=>storeL page (stOne page L k x) (k+1) r
def loadL (page:Int) (L:List (Int × List Int)) (k:Int) (n:Nat):List Int:=(List.range n).map fun (i:Nat)=>nth (pgB page L ((k+i) / page)) ((k+i) % page).toNat
def rightOp (o:Opn):Bool:=
 if o.kind=1∨o.kind=9 then decide (o.pid=0∧o.at_=0∧o.n=0∧o.prot=0∧o.data.length=0)
 else if o.kind=2∨o.kind=4 then decide (o.data.length=0)
 else if o.kind=3∨o.kind=5 then decide (o.prot=0∧o.data.length=0)
 else if o.kind=6 then decide (o.n=0∧o.prot=0)
 else if o.kind=7∨o.kind=8 then decide (o.at_=0∧o.n=0∧o.prot=0∧o.data.length=0)
 else false
def strB (c:Cf) (k n:Int):Bool:=decide (1≤n∧0≤k∧n≤c.pages∧k≤c.pages - n)
/-- What an operation makes of regions. -/
def turnE0 (L:List Rg) (o:Opn):Int:=if o.kind=2 then mapE L o.at_ (o.at_+o.n) o.prot else if o.kind=3 then 0 else proE L o.at_ (o.at_+o.n) o.prot
def turnL (L:List Rg) (o:Opn):List Rg:=if o.kind=2 then mapL L o.at_ (o.at_+o.n) o.prot else if o.kind=3 then unL L o.at_ (o.at_+o.n) else proL L o.at_ (o.at_+o.n) o.prot
def turnE (c:Cf) (L:List Rg) (o:Opn):Int:=
 if strB c o.at_ o.n=false then 1 else if turnE0 L o=0∧c.regions < (turnL L o).length then 6 else turnE0 L o
def bytesE (c:Cf) (L:List Rg) (k n ways:Int):Int:=
 if n < 0∨1048576 < n∨k < 0∨c.pages * c.page < k∨c.pages * c.page - k < n then 1
 else if 0 < n∧allL L (k / c.page) ((k+n - 1) / c.page+1) (okW ways)=false then 4 else 0
def Mc.full (st:Mc):Int:=if ((pidsK st.v st.pr).length:Int)=st.c.procs then 5 else 0
def checkE (st:Mc) (o:Opn):Int:=
 if rightOp o=false then 1 else if o.kind=9 then 0 else if o.kind=1 then st.full else if st.has o.pid=false then 2
 else if o.kind=5 then bytesE st.c (st.rs o.pid) o.at_ o.n 1 else if o.kind=6 then bytesE st.c (st.rs o.pid) o.at_ o.data.length 2
 else if o.kind=7 then st.full else if o.kind=8 then 0 else turnE st.c (st.rs o.pid) o
/-- An answer. -/
structure Ans where
 err:Int
 pid:Int
 data:List Int
 pids:List Int
def upd {α:Type} (f:Int→α) (p:Int) (x:α):Int→α:=fun q=>if q=p then x else f q
theorem upd_same {α:Type} (f:Int→α) (p:Int) (x:α):upd f p x p=x:=if_pos rfl
theorem upd_other {α:Type} (f:Int→α) {p q:Int} (x:α) (h:q ≠ p):upd f p x q=f q:=if_neg h
def Mc.first (st:Mc):Int:=tkN st.v st.pr
def stepM (st:Mc) (o:Opn):Mc:=
 if checkE st o ≠ 0 then st
 else if o.kind=1 then { st with v:=tkV st.v st.pr }
 else if o.kind=2∨o.kind=3∨o.kind=4 then { st with rs:=upd st.rs o.pid (turnL (st.rs o.pid) o),ms:=upd st.ms o.pid ((st.ms o.pid).filter fun x=>findB (turnL (st.rs o.pid) o) x.1) }
 else if o.kind=6 then { st with ms:=upd st.ms o.pid (storeL st.c.page (st.ms o.pid) o.at_ o.data) }
 else if o.kind=7 then { st with v:=tkV st.v st.pr,rs:=upd st.rs st.first (st.rs o.pid),ms:=upd st.ms st.first (st.ms o.pid) }
 else if o.kind=8 then { st with v:=frV st.v st.pr o.pid,rs:=upd st.rs o.pid [],ms:=upd st.ms o.pid [] }
 else st
def ansM (st:Mc) (o:Opn):Ans:=
 if checkE st o ≠ 0 then ⟨checkE st o,0,[],[]⟩
 else if o.kind=1∨o.kind=7 then ⟨0,st.first,[],[]⟩
 else if o.kind=5 then ⟨0,0,loadL st.c.page (st.ms o.pid) o.at_ o.n.toNat,[]⟩
 else if o.kind=9 then ⟨0,0,[],pidsK st.v st.pr⟩
 else ⟨0,0,[],[]⟩
/-- What a shape and a state are. -/
structure CfOk (c:Cf):Prop where
 page:16≤c.page∧c.page≤4096
 procs:1≤c.procs∧c.procs≤64
 regions:1≤c.regions∧c.regions≤32
 pages:1≤c.pages∧c.pages≤65536
def PgOk (page:Int) (b:List Int):Prop:=(b.length:Int)=page∧∀ y ∈ b,(Lit.int .u8 y).wf=true
structure McOk (st:Mc):Prop where
 cf:CfOk st.c
 low:lowB st.v st.pr
 cn:∀ p,Cn st.c.regions.toNat (st.rs p)
 wi:∀ p,Within st.c.pages (st.rs p)
 gone:∀ p,st.has p=false→st.rs p=[]∧st.ms p=[]
 srt:∀ p,SrtP (st.ms p)
 pg:∀ p,∀ x ∈ st.ms p,PgOk st.c.page x.2∧findB (st.rs p) x.1=true
theorem find_in {L:List Rg} {m x:Int} (h:findB L x=true) (hw:Within m L):0≤x∧x < m:=by
 unfold findB at h
 obtain ⟨r,hr⟩:=Option.isSome_iff_exists.1 h
 have h1:=hw r (List.mem_of_find?_eq_some hr)
 have h2:=List.find?_some hr
 have h3:=Rg.has_iff.1 h2
 omega
theorem rising_len:∀ (L:List (Int × List Int)) (a b:Int),SrtP L→(∀ x ∈ L,a≤x.1∧x.1 < b)→a≤b→(L.length:Int)≤b - a
 | [],a,b,_,_,h=>by simp;omega
 | x :: r,a,b,hs,hin,h=>by
  have h1:=List.pairwise_cons.1 hs
  have h2:=hin x (List.mem_cons_self ..)
  have:=rising_len r (x.1+1) b h1.2 (fun y hy=>⟨by have:=h1.1 y hy;omega,(hin y (List.mem_cons_of_mem _ hy)).2⟩) (by omega)
  simp only [List.length_cons]
  omega
theorem McOk.few {st:Mc} (h:McOk st) (p:Int):(st.ms p).length≤65536:=by
 have h1:=h.cf.pages
 have:=rising_len (st.ms p) 0 st.c.pages (h.srt p) (fun x hx=>find_in (h.pg p x hx).2 (h.wi p)) (by omega)
 omega
theorem McOk.prI {st:Mc} (h:McOk st):(st.pr:Int)=st.c.procs:=by
 have:=h.cf.procs
 unfold Mc.pr
 omega
theorem McOk.prL {st:Mc} (h:McOk st):1≤st.pr∧st.pr≤64:=by
 have:=h.cf.procs
 have:=h.prI
 omega
theorem cn_nil (m:Nat):Cn m []:=⟨by trivial,Nat.zero_le _,fun r hr=>by cases hr⟩
theorem pgOk_zero {page:Int} (h:16≤page):PgOk page (zeroP page):=by
 unfold PgOk zeroP
 refine ⟨by simp;omega,fun y hy=>?_⟩
 rw [List.eq_of_mem_replicate hy]
 decide
theorem pgOk_B {page:Int} (h:16≤page) {L:List (Int × List Int)} (hL:∀ x ∈ L,PgOk page x.2) (n:Int):PgOk page (pgB page L n):=by
 unfold pgB
 cases hk:kget L n with
 | none=>exact pgOk_zero h
 | some b=>exact hL _ (kget_mem hk)
/-- Bytes stored in two pieces. -/
theorem storeL_append (page:Int):∀ (d e:List Int) (L:List (Int × List Int)) (k:Int),storeL page L k (d ++ e)=storeL page (storeL page L k d) (k+d.length) e
 | [],e,L,k=>by simp [storeL]
 | x :: r,e,L,k=>by
  rw [List.cons_append,storeL,storeL,storeL_append page r e]
  congr 1
  simp
  omega
/-- Bytes laid into a page. -/
def splice (b:List Int) (i:Nat) (d:List Int):List Int:=b.take i ++ d ++ b.drop (i+d.length)
theorem splice_nil (b:List Int) (i:Nat):splice b i []=b:=by simp [splice]
theorem splice_cons {b:List Int} {i:Nat} {x:Int} {d:List Int} (h:i+d.length < b.length):splice b i (x :: d)=splice (b.set i x) (i+1) d:=by
 unfold splice
 have h1:i < b.length:=by omega
 rw [List.take_set,List.drop_set,if_pos (by omega)]
 have e1:(b.take (i+1)).set i x=b.take i ++ [x]:=by
  rw [List.take_add_one,List.getElem?_eq_getElem h1]
  rw [List.set_append_right (h:=by simp;omega)]
  simp [Nat.min_eq_left (Nat.le_of_lt h1)]
 rw [e1]
 have e2:i+(x :: d).length=i+1+d.length:=by simp;omega
 rw [e2]
 simp
theorem pgSet_pgSet {L:List (Int × List Int)} (h:SrtP L) (n:Int) (b c:List Int):pgSet (pgSet L n b) n c=pgSet L n c:=by
 refine srt_ext (pgSet_srt (pgSet_srt h)) (pgSet_srt h) (fun p=>?_)
 rw [pgSet_mem (pgSet_srt h),pgSet_mem h,pgSet_mem h]
 constructor
 ·rintro (e | ⟨e | ⟨hp,_⟩,hn⟩)
  ·exact .inl e
  ·rw [e] at hn;exact absurd rfl hn
  ·exact .inr ⟨hp,hn⟩
 ·rintro (e | ⟨hp,hn⟩)
  ·exact .inl e
  ·exact .inr ⟨.inr ⟨hp,hn⟩,hn⟩
theorem stOne_srt {page:Int} {L:List (Int × List Int)} (h:SrtP L) (k x:Int):SrtP (stOne page L k x):=pgSet_srt h
theorem storeL_srt {page:Int}:∀ {d:List Int} {L:List (Int × List Int)} {k:Int},SrtP L→SrtP (storeL page L k d)
 | [],_,_,h=>h
 | x :: r,L,k,h=>by rw [storeL];exact storeL_srt (stOne_srt h k x)
theorem divmod_next {page k:Int} (hp:0 < page) (h:k % page+1 < page):(k+1) / page=k / page∧(k+1) % page=k % page+1:=by
 have e:k+1=page * (k / page)+(k % page+1):=by have:=Int.mul_ediv_add_emod k page;omega
 have h0:=Int.emod_nonneg k (by omega:page ≠ 0)
 constructor
 ·rw [e,Int.mul_add_ediv_left _ _ (by omega:page ≠ 0),Int.ediv_eq_zero_of_lt (by omega) h,Int.add_zero]
 ·rw [e,Int.mul_add_emod_self_left,Int.emod_eq_of_lt (by omega) h]
/-- Bytes stored within one page: that page has them. -/
theorem storeL_page {page:Int} (hp:16≤page):∀ {d:List Int} {L:List (Int × List Int)} {k:Int},SrtP L→((pgB page L (k / page)).length:Int)=page→d ≠ []→k % page+d.length≤page →
  storeL page L k d=pgSet L (k / page) (splice (pgB page L (k / page)) (k % page).toNat d)
 | [],_,_,_,_,hd,_=>absurd rfl hd
 | x :: r,L,k,hs,hl,_,hk=>by
  have h0:=Int.emod_nonneg k (by omega:page ≠ 0)
  simp only [List.length_cons] at hk
  rw [storeL]
  by_cases hr:r=[]
  ·subst hr
   rw [storeL,splice_cons (by simp;omega),splice_nil]
   rfl
  ·have hr1:0 < r.length:=List.length_pos_iff.2 hr
   obtain ⟨e1,e2⟩:=divmod_next (page:=page) (k:=k) (by omega) (by omega)
   have hg:pgB page (stOne page L k x) (k / page)=(pgB page L (k / page)).set (k % page).toNat x:=by
    conv=>lhs;unfold pgB
    unfold stOne
    rw [kget_pgSet hs,if_pos rfl];rfl
   rw [storeL_page hp (stOne_srt hs k x) (by rw [e1,hg];simpa using hl) hr (by rw [e2];omega),e1,e2,hg]
   have e3:(k % page+1).toNat=(k % page).toNat+1:=by omega
   rw [e3,← splice_cons (by omega)]
   exact pgSet_pgSet hs _ _ _
theorem md_laidOut:laidOutB Tryz.prog=true:=by kernel_rfl
theorem md_row:(107:TypeId) < Tryz.prog.types.size:=of_decide_eq_true (by kernel_rfl)
theorem md_wide:(match Tryz.prog.underlying 107 with | some (.array _ _) | some (.struct _)=>true | _=>false)=true:=by kernel_rfl
theorem pageK:Maps.Keyed Tryz.prog 107:=Maps.Keyed.of_law (deep_law_laid md_laidOut (m:=2) (by omega) md_row (by kernel_rfl) md_wide)
theorem page_key (s n:Int) (h:(Lit.int .i64 s).wf=true) (h':(Lit.int .i64 n).wf=true):∃ l,keyOf Tryz.prog 107 (.agg #[.int .i64 s,.int .i64 n])=some l:=by
 unfold keyOf
 rw [Tryz.underlying107]
 have h1:Tryz.prog.keyType 107=true:=by kernel_rfl
 have h2:(Value.agg #[.int .i64 s,.int .i64 n]).formed Tryz.prog 107=true:=by kernel_rfl
 simp only [h1,h2]
 have h3:Tryz.prog.types.size+1=(Tryz.prog.types.size - 1)+1+1:=by kernel_rfl
 have h4:Tryz.prog.cellsOf 107=2:=by kernel_rfl
 have h5:Tryz.prog.cellsOf 3=1:=by kernel_rfl
 rw [h3]
 generalize Tryz.prog.types.size - 1=N
 have h6:∀ x:Int,(Lit.int .i64 x).wf=true→Tryz.prog.keyLits (N+1) 3 [.int .i64 x]=some [.int .i64 x]:=by
  intro x hx
  unfold Program.keyLits
  rw [Tryz.underlying3]
  simp [hx]
 unfold Program.keyLits
 rw [Tryz.underlying107]
 simp [Value.cells,h4,h5,h6 s h,h6 n h']
theorem int_key (s:Int) (h:(Lit.int .i64 s).wf=true):∃ l,keyOf Tryz.prog 3 (.int .i64 s)=some l:=by
 refine ⟨.int .i64 s,?_⟩
 simp [keyOf,Tryz.underlying3,mapKey,h]
/-- Regions by process. -/
def MR:MapK Tryz.prog 98 3 77 Int Value where
 kv:=Value.int .i64
 ok:=fun s=>(Lit.int .i64 s).wf=true
 vv:=id
 z:=.slice none 0 0
 keyed:=Maps.int_keyed Tryz.underlying3
 under:=Tryz.underlying98
 lit:=int_key
 kinj:=fun s t h=>by injection h
 vinj:=fun s t h=>h
 zv:=fun w=>by kernel_rfl
/-- Bytes by page. -/
def MP:MapK Tryz.prog 99 107 37 (Int × Int) Value where
 kv:=fun p=>.agg #[.int .i64 p.1,.int .i64 p.2]
 ok:=fun p=>(Lit.int .i64 p.1).wf=true∧(Lit.int .i64 p.2).wf=true
 vv:=id
 z:=.slice none 0 0
 keyed:=pageK
 under:=Tryz.underlying99
 lit:=fun p h=>page_key p.1 p.2 h.1 h.2
 kinj:=fun s t h=>by
  obtain ⟨a,b⟩:=s
  obtain ⟨x,y⟩:=t
  simp at h
  rw [h.1,h.2]
 vinj:=fun s t h=>h
 zv:=fun w=>by kernel_rfl
/-- From w to w' nothing has turned but blocks of Q and new ones. -/
structure Tn (Q:Nat→Prop) (w w':World):Prop where
 os:w'.os=w.os
 tape:w'.tape=w.tape
 output:w'.output=w.output
 size:w.heap.size≤w'.heap.size
 block:∀ k,k < w.heap.size→¬ Q k→w'.heap[k]?=w.heap[k]?
theorem Tn.refl (Q:Nat→Prop) (w:World):Tn Q w w:=⟨rfl,rfl,rfl,Nat.le_refl _,fun _ _ _=>rfl⟩
theorem Tn.trans {Q:Nat→Prop} {w w1 w2:World} (h:Tn Q w w1) (k:Tn Q w1 w2):Tn Q w w2:=
 ⟨k.os.trans h.os,k.tape.trans h.tape,k.output.trans h.output,Nat.le_trans h.size k.size,fun i hi hq=>(k.block i (Nat.lt_of_lt_of_le hi h.size) hq).trans (h.block i hi hq)⟩
theorem Tn.mono {Q Q':Nat→Prop} {w w':World} (h:Tn Q w w') (hq:∀ k,k < w.heap.size→Q k→Q' k):Tn Q' w w':=⟨h.os,h.tape,h.output,h.size,fun k hk hn=>h.block k hk (fun e=>hn (hq k hk e))⟩
theorem Tn.of {Q:Nat→Prop} {w w':World} (h:Below w.heap.size w w'):Tn Q w w':=⟨h.os,h.tape,h.output,h.size,fun k hk _=>h.block k hk⟩
theorem Tn.call {Q:Nat→Prop} {w w1 w2:World} (h:Tn Q w w1) (b:Below w1.heap.size w1 w2):Tn Q w w2:=h.trans (Tn.of b)
theorem Tn.put {Q:Nat→Prop} {w w1 w2:World} {b:Nat} (h:Tn Q w w1) (hg:w1.grownBy w2 (some b)) (hb:Q b∨w.heap.size≤b):Tn Q w w2:=
 ⟨hg.os.trans h.os,hg.tape.trans h.tape,hg.output.trans h.output,Nat.le_trans h.size hg.size,fun k hk hn=>(hg.block k (Nat.lt_of_lt_of_le hk h.size) (fun e=>by
  injection e with e
  subst e
  rcases hb with hb | hb
  ·exact hn hb
  ·omega)).trans (h.block k hk hn)⟩
theorem Tn.below {Q:Nat→Prop} {w w':World} {B:Nat} (h:Tn Q w w') (hq:∀ k,k < B→¬ Q k) (hB:B≤w.heap.size):Below B w w':=⟨h.os,h.tape,h.output,h.size,fun k hk=>h.block k (Nat.lt_of_lt_of_le hk hB) (hq k hk)⟩
theorem RdAt.tn {k:IntKind} {Q:Nat→Prop} {w w':World} {a:Option Addr} {n c:Nat} {l:List Int} (h:RdAt k w a n c l) (t:Tn Q w w') (hne:∀ x,a=some x→0 < n→¬ Q x.block):RdAt k w' a n c l:=
 ⟨h.len,h.cap,h.max,fun i hi=>by
  obtain ⟨b,o,e,hc⟩:=h.cell i hi
  exact ⟨b,o,e,by rw [← hc];exact World.cell?_of_block (a:=⟨b,o+i,none⟩) (t.block b (block_lt_of_cell hc) (hne _ e (by omega)))⟩,h.wf,h.void⟩
theorem RdAt.lt {k:IntKind} {w:World} {a:Option Addr} {n c:Nat} {l:List Int} (h:RdAt k w a n c l):∀ x,a=some x→0 < n→x.block < w.heap.size:=fun x hx hn=>by
 obtain ⟨b,o,e,hc⟩:=h.cell 0 hn
 rw [hx] at e
 injection e with e
 subst e
 exact block_lt_of_cell (a:=⟨b,o+0,none⟩) hc
theorem RdS.tn {α:Type} {m:α→List Value} {k:Nat} {Q:Nat→Prop} {w w':World} {a:Option Addr} {n c:Nat} {L:List α} (h:RdS m k w a n c L) (t:Tn Q w w') (hne:∀ x,a=some x→0 < n→¬ Q x.block):RdS m k w' a n c L:=
 ⟨h.len,h.cap,h.max,fun i x hx=>by
  obtain ⟨b,o,e,hc⟩:=h.cell i x hx
  have hn:0 < n:=by have:=(List.getElem?_eq_some_iff.1 hx).1;have:=h.len;omega
  exact ⟨b,o,e,fun j u hu=>by rw [← hc j u hu];exact World.cell?_of_block (a:=⟨b,o+i * k+j,none⟩) (t.block b (block_lt_of_cell (hc j u hu)) (hne _ e hn))⟩,h.void⟩
theorem row_tn {Q:Nat→Prop} {w w':World} {b:Nat} {o:Obj} (h:w.heap[b]?=some o) (t:Tn Q w w') (hz:¬ Q b):w'.heap[b]?=some o:=by
 rw [t.block b (Array.getElem?_eq_some_iff.1 h).1 hz];exact h
/-- A slice of regions, a slice of bytes, whose row is none of those that may turn. -/
def RgV (w:World) (No:Nat→Prop) (v:Value) (L:List Rg):Prop:=∃ a n c,v = .slice a n c∧RdS Rg.cells 3 w a n c L∧∀ x,a=some x→0 < n→¬ No x.block
def PgV (w:World) (No:Nat→Prop) (v:Value) (b:List Int):Prop:=∃ a n c,v = .slice a n c∧RdAt .u8 w a n c b∧∀ x,a=some x→0 < n→¬ No x.block
theorem RgV.tn {w w':World} {No Q:Nat→Prop} {v:Value} {L:List Rg} (h:RgV w No v L) (t:Tn Q w w') (hq:∀ k,Q k→No k):RgV w' No v L:=by
 obtain ⟨a,n,c,e,r,hn⟩:=h
 exact ⟨a,n,c,e,r.tn t (fun x hx h0 hk=>hn x hx h0 (hq _ hk)),hn⟩
theorem PgV.tn {w w':World} {No Q:Nat→Prop} {v:Value} {b:List Int} (h:PgV w No v b) (t:Tn Q w w') (hq:∀ k,Q k→No k):PgV w' No v b:=by
 obtain ⟨a,n,c,e,r,hn⟩:=h
 exact ⟨a,n,c,e,r.tn t (fun x hx h0 hk=>hn x hx h0 (hq _ hk)),hn⟩
theorem RgV.reno {w:World} {No No':Nat→Prop} {v:Value} {L:List Rg} (h:RgV w No v L) (hq:∀ k,k < w.heap.size→No' k→No k):RgV w No' v L:=by
 obtain ⟨a,n,c,e,r,hn⟩:=h
 exact ⟨a,n,c,e,r,fun x hx h0 hk=>hn x hx h0 (hq _ (r.lt rgC x hx h0) hk)⟩
theorem PgV.reno {w:World} {No No':Nat→Prop} {v:Value} {b:List Int} (h:PgV w No v b) (hq:∀ k,k < w.heap.size→No' k→No k):PgV w No' v b:=by
 obtain ⟨a,n,c,e,r,hn⟩:=h
 exact ⟨a,n,c,e,r,fun x hx h0 hk=>hn x hx h0 (hq _ (r.lt x hx h0) hk)⟩
theorem OwnsS.rgV {w:World} {base:Nat} {v:Value} {L:List Rg} {No:Nat→Prop} (h:OwnsS Rg.cells 3 110 w base v L) (hn:∀ k,No k→k < base):RgV w No v L:=by
 obtain ⟨a,c,rfl⟩:=h.shape
 refine ⟨a,L.length,c,rfl,h.rd rgC,fun x hx h0 hk=>?_⟩
 obtain ⟨g,cur,e,hb,_⟩:=h.row h0
 rw [hx] at e
 injection e with e
 subst e
 have:=hn _ hk
 simp at this
 omega
theorem Owns.blk {k:IntKind} {e:TypeId} {w:World} {base:Nat} {a:Option Addr} {n c:Nat} {l:List Int} (h:Owns k e w base (.slice a n c) l):∀ x,a=some x→0 < n→base≤x.block:=fun x hx h0=>by
 have hrd:=h.rd
 have hc:0 < c:=Nat.lt_of_lt_of_le h0 hrd.cap
 obtain ⟨b,o,e1,_⟩:=hrd.cell 0 h0
 rw [hx] at e1
 injection e1 with e1
 subst e1
 have hr:room (.slice (some ⟨b,o,none⟩) n c)=some b:=by
  unfold room
  simp
  omega
 have:=(h.at_base b (by rw [hx] at *;exact hr)).1
 exact this
/-- Where a machine lies. -/
structure McH where
 m:Nat
 sb:Nat
 lb:Nat
 pb:Nat
def McH.own (h:McH) (k:Nat):Prop:=k=h.sb∨k=h.lb∨k=h.pb
def mcRow (h:McH) (c:Cf):Obj:=.cells #[.int .i64 c.a0,.int .i64 c.a1,.int .i64 c.a2,.int .i64 c.a3,.int .i64 c.page,.int .i64 c.a5,.int .i64 c.procs,.int .i64 c.regions,.int .i64 c.pages,.pointer (some ⟨h.sb,0,none⟩),.map (some h.lb),.map (some h.pb)] 101 (0,0)
structure RgsIn (w:World) (No:Nat→Prop) (st:Mc) (D:List (Int × Value)):Prop where
 all:∀ p ∈ D,st.has p.1=true∧RgV w No p.2 (st.rs p.1)
 gone:∀ s,(∀ p ∈ D,p.1 ≠ s)→st.rs s=[]
structure PgsIn (w:World) (No:Nat→Prop) (st:Mc) (E:List ((Int × Int) × Value)):Prop where
 all:∀ p ∈ E,∃ b,(p.1.2,b) ∈ st.ms p.1.1∧PgV w No p.2 b
 has:∀ s,∀ x ∈ st.ms s,∃ v,((s,x.1),v) ∈ E
structure McIn (w:World) (No:Nat→Prop) (h:McH) (st:Mc):Prop where
 row:w.heap[h.m]?=some (mcRow h st.c)
 set:SetAt w h.sb st.c.procs st.v
 dat:∃ D E,MapG MR w h.lb D∧MapG MP w h.pb E∧RgsIn w No st D∧PgsIn w No st E
 ok:McOk st
 no:No h.sb∧No h.lb∧No h.pb∧¬ No h.m
 ne:h.sb ≠ h.lb∧h.sb ≠ h.pb∧h.lb ≠ h.pb
 lt:∀ k,No k→k < w.heap.size
theorem RgsIn.tn {w w':World} {No Q:Nat→Prop} {st:Mc} {D:List (Int × Value)} (h:RgsIn w No st D) (t:Tn Q w w') (hq:∀ k,Q k→No k):RgsIn w' No st D:=
 ⟨fun p hp=>⟨(h.all p hp).1,(h.all p hp).2.tn t hq⟩,h.gone⟩
theorem PgsIn.tn {w w':World} {No Q:Nat→Prop} {st:Mc} {E:List ((Int × Int) × Value)} (h:PgsIn w No st E) (t:Tn Q w w') (hq:∀ k,Q k→No k):PgsIn w' No st E:=
 ⟨fun p hp=>by obtain ⟨b,hb,hv⟩:=h.all p hp;exact ⟨b,hb,hv.tn t hq⟩,h.has⟩
theorem McIn.tn {w w':World} {No Q:Nat→Prop} {h:McH} {st:Mc} (i:McIn w No h st) (t:Tn Q w w') (hq:∀ k,Q k→No k∧¬ h.own k):McIn w' No h st:=by
 obtain ⟨D,E,h1,h2,h3,h4⟩:=i.dat
 have q0:∀ k,Q k→No k:=fun k hk=>(hq k hk).1
 have qs:¬ Q h.sb:=fun hk=>(hq _ hk).2 (.inl rfl)
 have ql:¬ Q h.lb:=fun hk=>(hq _ hk).2 (.inr (.inl rfl))
 have qp:¬ Q h.pb:=fun hk=>(hq _ hk).2 (.inr (.inr rfl))
 have qm:¬ Q h.m:=fun hk=>i.no.2.2.2 (q0 _ hk)
 exact ⟨row_tn i.row t qm,row_tn i.set t qs,⟨D,E,h1.at (t.block _ h1.lt ql),h2.at (t.block _ h2.lt qp),h3.tn t q0,h4.tn t q0⟩,i.ok,i.no,i.ne,fun k hk=>Nat.lt_of_lt_of_le (i.lt k hk) t.size⟩
theorem McIn.below {w w':World} {No:Nat→Prop} {h:McH} {st:Mc} (i:McIn w No h st) (b:Below w.heap.size w w'):McIn w' No h st:=
 i.tn (Tn.of (Q:=fun _=>False) b) (fun _ h=>h.elim)
/-- More blocks that may turn, all of them new. -/
theorem McIn.reno {w w':World} {No No':Nat→Prop} {h:McH} {st:Mc} (i:McIn w No h st) (b:Below w.heap.size w w') (h1:∀ k,No k→No' k) (h2:∀ k,No' k→No k∨w.heap.size≤k) (h3:∀ k,No' k→k < w'.heap.size):McIn w' No' h st:=by
 have q:∀ k,k < w.heap.size→No' k→No k:=fun k hk hn=>by
  rcases h2 k hn with h | h
  ·exact h
  ·omega
 obtain ⟨D,E,e1,e2,e3,e4⟩:=i.dat
 have j:∃ D E,MapG MR w' h.lb D∧MapG MP w' h.pb E∧RgsIn w' No' st D∧PgsIn w' No' st E:=by
  have t:Tn (fun _=>False) w w':=Tn.of b
  refine ⟨D,E,e1.at (b.block _ e1.lt),e2.at (b.block _ e2.lt),⟨fun p hp=>⟨(e3.all p hp).1,((e3.all p hp).2.reno q).tn t (fun _ h=>h.elim)⟩,e3.gone⟩,⟨fun p hp=>?_,e4.has⟩⟩
  obtain ⟨c,hc,hv⟩:=e4.all p hp
  exact ⟨c,hc,(hv.reno q).tn t (fun _ h=>h.elim)⟩
 have hm:h.m < w.heap.size:=(Array.getElem?_eq_some_iff.1 i.row).1
 exact ⟨(b.block _ hm).trans i.row,i.set.below b,j,i.ok,⟨h1 _ i.no.1,h1 _ i.no.2.1,h1 _ i.no.2.2.1,fun hk=>i.no.2.2.2 (q _ hm hk)⟩,i.ne,h3⟩
/-- What a machine's cells tell. -/
theorem McIn.cells {w:World} {No:Nat→Prop} {h:McH} {st:Mc} (i:McIn w No h st) :
  w.cell? ⟨h.m,4,none⟩=some (.int .i64 st.c.page)∧w.cell? ⟨h.m,6,none⟩=some (.int .i64 st.c.procs)∧w.cell? ⟨h.m,7,none⟩=some (.int .i64 st.c.regions)∧w.cell? ⟨h.m,8,none⟩=some (.int .i64 st.c.pages) ∧
  w.cell? ⟨h.m,9,none⟩=some (.pointer (some ⟨h.sb,0,none⟩))∧w.cell? ⟨h.m,10,none⟩=some (.map (some h.lb))∧w.cell? ⟨h.m,11,none⟩=some (.map (some h.pb)):=by
 have r:=i.row
 unfold mcRow at r
 exact ⟨cell_of_row w h.m 4 _ _ _ r,cell_of_row w h.m 6 _ _ _ r,cell_of_row w h.m 7 _ _ _ r,cell_of_row w h.m 8 _ _ _ r,cell_of_row w h.m 9 _ _ _ r,cell_of_row w h.m 10 _ _ _ r,cell_of_row w h.m 11 _ _ _ r⟩
/-- Looking up a process's regions. -/
theorem McIn.lookR {w:World} {No:Nat→Prop} {h:McH} {st:Mc} (i:McIn w No h st) (p:Int) (hp:(Lit.int .i64 p).wf=true) :
  ∃ a n c,(Instr.lookup 98 (.map (some h.lb)) (.int .i64 p) false).run Tryz.prog w = .ok (.slice a n c) w∧RdS Rg.cells 3 w a n c (st.rs p)∧∀ x,a=some x→0 < n→¬ No x.block:=by
 obtain ⟨D,E,e1,e2,e3,e4⟩:=i.dat
 have hl:=mg_look e1 p hp
 cases hk:kget D p with
 | none=>
  rw [hk] at hl
  refine ⟨none,0,0,hl,?_,fun _ h=>by cases h⟩
  rw [e3.gone p (kget_no hk)]
  exact RdS.nil _ _ _
 | some v=>
  rw [hk] at hl
  obtain ⟨a,n,c,rfl,r,hn⟩:=(e3.all _ (kget_mem hk)).2
  exact ⟨a,n,c,hl,r,hn⟩
/-- Looking up a page's bytes. -/
theorem McIn.lookP {w:World} {No:Nat→Prop} {h:McH} {st:Mc} (i:McIn w No h st) (p n:Int) (hp:(Lit.int .i64 p).wf=true) (hn:(Lit.int .i64 n).wf=true) :
  ∃ a m c,(Instr.lookup 99 (.map (some h.pb)) (.agg #[.int .i64 p,.int .i64 n]) true).run Tryz.prog w = .ok (.tuple #[.slice a m c,.bool (kget (st.ms p) n).isSome]) w∧(∀ b,kget (st.ms p) n=some b→RdAt .u8 w a m c b∧∀ x,a=some x→0 < m→¬ No x.block)∧(kget (st.ms p) n=none→a=none∧m=0∧c=0):=by
 obtain ⟨D,E,e1,e2,e3,e4⟩:=i.dat
 have hl:=mg_look2 e2 (p,n) ⟨hp,hn⟩
 have hs:=i.ok.srt p
 cases hk:kget E (p,n) with
 | none=>
  have h0:kget (st.ms p) n=none:=kget_none (fun q hq e=>by
   obtain ⟨v,hv⟩:=e4.has p q hq
   exact kget_no hk _ hv (by rw [e]))
  rw [hk] at hl;rw [h0]
  exact ⟨none,0,0,hl,fun b h=>(by cases h),fun _=>⟨rfl,rfl,rfl⟩⟩
 | some v=>
  obtain ⟨b,hb,a,m,c,e,r,hx⟩:=e4.all _ (kget_mem hk)
  have h0:kget (st.ms p) n=some b:=(kget_iff hs).2 hb
  rw [hk] at hl;rw [h0]
  simp only at e
  subst e
  exact ⟨a,m,c,hl,fun b' e'=>by injection e' with e';subst e';exact ⟨r,hx⟩,fun h=>by cases h⟩
theorem McIn.lookRB {w:World} {No:Nat→Prop} {h:McH} {st:Mc} (i:McIn w No h st) (p:Int) (hp:(Lit.int .i64 p).wf=true) :
  ∃ a n c,(∀ w',Below w.heap.size w w'→(Instr.lookup 98 (.map (some h.lb)) (.int .i64 p) false).run Tryz.prog w' = .ok (.slice a n c) w')∧RdS Rg.cells 3 w a n c (st.rs p)∧∀ x,a=some x→0 < n→¬ No x.block:=by
 obtain ⟨D,E,e1,e2,e3,e4⟩:=i.dat
 have hl:=fun (w':World) (b:Below w.heap.size w w')=>mg_look (e1.at (b.block _ e1.lt)) p hp
 cases hk:kget D p with
 | none=>
  simp only [hk] at hl
  refine ⟨none,0,0,hl,?_,fun _ h=>by cases h⟩
  rw [e3.gone p (kget_no hk)]
  exact RdS.nil _ _ _
 | some v=>
  simp only [hk] at hl
  obtain ⟨a,n,c,rfl,r,hn⟩:=(e3.all _ (kget_mem hk)).2
  exact ⟨a,n,c,hl,r,hn⟩
theorem kept_n {w w1:World} {q:Nat} (h:Kept (w.drewN q).drew w1):Below w.heap.size w w1:=⟨h.os,h.tape,h.output,h.size,h.block⟩
theorem kept_0 {w w1:World} (h:Kept w.drew w1):Below w.heap.size w w1:=⟨h.os,h.tape,h.output,h.size,h.block⟩
theorem u8T:Tryz.prog.underlying 37=some (.slice 5):=Tryz.underlying37
theorem u8I:elemInfo Tryz.prog 5 .u8 1:=by unfold elemInfo;kernel_rfl
/-- Ends with bytes of its own. -/
def GivesBytes (l:List Int) (w:World) (e:Ending) (w':World):Prop:=∃ v,e = .returned v∧Owns .u8 5 w' w.heap.size v l∧Below w.heap.size w w'
theorem clone_any (a:Option Addr) (n c:Nat) (l:List Int) (w:World) (h:RdAt .u8 w a n c l) (hn:n≤1000000000) :
  Calls Tryz.prog 82 #[.slice a n c] w (GivesBytes l w):=by
 cases a with
 | none=>
  obtain rfl:c=0:=h.void rfl
  have hcap:=h.cap
  obtain rfl:n=0:=by omega
  obtain rfl:l=[]:=List.eq_nil_of_length_eq_zero h.len
  have hnil:=fun (w:World) (a:Option Addr) (n c:Nat)=>Lib.run_eql_slice_nil (P:=Tryz.prog) w 37 5 a n c 0 0 Tryz.underlying37
  go_enter Tryz.func82,Tryz.ntmps82
  go_wp2
  go_ret
  exact ⟨_,rfl,Owns.nil _ _ _ _,Below.refl _ _⟩
 | some x=>
  have hnil:=fun (w:World) (a:Option Addr) (n c:Nat)=>Lib.run_eql_slice_nil (P:=Tryz.prog) w 37 5 a n c 0 0 Tryz.underlying37
  go_enter Tryz.func82,Tryz.ntmps82
  go_wp2_with (at_builtin;refine app_all u8T u8I (by decide) rfl _ _ rfl _ w.heap.size _ [] rfl (Owns.empty _ _ _ _ _ _) _ _ _ l rfl (h.below ((Below.refl _ _).alloc (Nat.le_refl _) _)) (by simp;omega) (by simp) ?_;intro x1 w1 ho1 hg0)
  go_ret
  exact ⟨_,rfl,ho1,hg0.fromEmpty⟩
end Go.Proofs.YtoepnbfifjgpfaaGreat
