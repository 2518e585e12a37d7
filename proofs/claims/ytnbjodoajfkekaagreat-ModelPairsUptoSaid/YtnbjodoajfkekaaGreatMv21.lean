/- The machine: which pages were stored; how much there is. The machine: how much there is. The machine: how much there is (Weight). The machine: a number taken, let go; regions laid. -/
import Derived.Test.YtnbjodoajfkekaaGreatMv0
import Derived.Test.YtnbjodoajfkekaaGreatMv20
import Derived.WalkKit
import Derived.ProofKit
import Derived.BigQuiet
import Derived.Deep.QuietTactic
import Derived.Lib.Hide
import Derived.RegionTactic
namespace Go.Proofs.YtnbjodoajfkekaaGreat
open Go.RowKit
/-- A process's pages being collected. -/
structure StR (p:Int) (w:World) (b:Nat) (E:List ((Int × Int) × Value)) (wr:World) (v:Value) (L X:List ((Int × Int) × Value)) (ks:List Int):Prop where
 it:IterG MP wr b w.heap.size E L
 all:E.Perm (L ++ X)
 keys:ks=(X.filter fun q=>decide (q.1.1=p)).map fun q=>q.1.2
 own:Owns .i64 3 wr (w.heap.size+1) v ks
 bel:Below w.heap.size w wr
theorem stored_keys {E:List ((Int × Int) × Value)} (h:(E.map Prod.fst).Nodup) (p:Int):((E.filter fun q=>decide (q.1.1=p)).map fun q=>q.1.2).Nodup:=by
 induction E with
 | nil=>simp
 | cons x r ih=>
  rw [List.map_cons,List.nodup_cons] at h;rw [List.filter_cons]
  by_cases e:x.1.1=p
  ·rw [if_pos (by simpa using e),List.map_cons,List.nodup_cons]
   refine ⟨fun hm=>?_,ih h.2⟩
   obtain ⟨y,hy,hyx⟩:=List.mem_map.1 hm
   obtain ⟨hy1,hy2⟩:=List.mem_filter.1 hy
   have hy3:y.1.1=p:=by simpa using hy2
   refine h.1 (List.mem_map.2 ⟨y,hy1,?_⟩)
   exact Prod.ext (by rw [hy3,e]) hyx
  ·rw [if_neg (by simpa using e)]
   exact ih h.2
section
variable {No:Nat→Prop} {h:McH} {st:Mc} {w:World}
theorem stored_mem {E:List ((Int × Int) × Value)} (e4:PgsIn w No st E) (p k:Int):(k ∈ (E.filter fun q=>decide (q.1.1=p)).map fun q=>q.1.2)↔k ∈ (st.ms p).map Prod.fst:=by
 rw [List.mem_map,List.mem_map]
 constructor
 ·rintro ⟨q,hq,rfl⟩
  obtain ⟨h1,h2⟩:=List.mem_filter.1 hq
  have h3:q.1.1=p:=by simpa using h2
  obtain ⟨b,hb,_⟩:=e4.all q h1
  rw [h3] at hb
  exact ⟨_,hb,rfl⟩
 ·rintro ⟨x,hx,rfl⟩
  obtain ⟨v,hv⟩:=e4.has p x hx
  exact ⟨_,List.mem_filter.2 ⟨hv,by simp⟩,rfl⟩
theorem SrtP.keys {L:List (Int × List Int)} (hs:SrtP L):(L.map Prod.fst).Pairwise (fun a b=>a < b):=by
 rw [List.pairwise_map]
 exact hs
set_option maxRecDepth 100000 in
set_option maxHeartbeats 2000000 in
theorem stored_any (i:McIn w No h st) (p:Int) :
  Calls Tryz.prog 62 #[.pointer (some ⟨h.m,0,none⟩),.int .i64 p] w (GivesPids ((st.ms p).map Prod.fst) w):=by
 obtain ⟨c4,c6,c7,c8,c9,c10,c11⟩:=i.cells
 obtain ⟨D,E,e1,e2,e3,e4⟩:=i.dat
 obtain ⟨w0,hrun,hit,hg0,hs0⟩:=mg_range e2
 have ST:Hid (StR p w h.pb E w0 (.slice none 0 0) E [] []):=⟨hit,by simp,rfl,Owns.nil _ _ _ _,⟨hg0.os,hg0.tape,hg0.output,hg0.size,fun k hk=>hg0.block k hk (by simp)⟩⟩
 have HPB:=Lib.hid e2.lt
 have HMEM:=Lib.hid (fun k=>stored_mem e4 p k)
 have HKEY:=Lib.hid (stored_keys e2.nodup p)
 have HSRT:=Lib.hid (i.ok.srt p).keys
 have HFEW:=Lib.hid (i.ok.few p)
 have HEL:Hid ((E.filter fun q=>decide (q.1.1=p)).length≤65536):=by
  have hp:=(List.perm_ext_iff_of_nodup HKEY.out (HSRT.out.imp (fun h=>by omega))).2 HMEM.out
  have h1:=hp.length_eq
  rw [List.length_map,List.length_map] at h1
  have h2:=HFEW.out
  show _≤_
  omega
 clear hit hg0 hs0 e1 e2 e3 e4 i c4 c6 c7 c8 c9 c10
 go_enter Tryz.func62,Tryz.ntmps62
 go_wp2_with fail
 go_loopw [5] (fun v wr=>∃ L X ks,Hid (StR p w h.pb E wr v L X ks)) (fun _ wr=>wr.rangeLeft h.pb w.heap.size)
 case atStart=>exact ⟨_,_,_,ST⟩
 case round=>
  clear ST hrun c11
  obtain ⟨L,X,ks,HR⟩:=hrel
  rcases ig_next HR.out.it 0 with ⟨hl,hnx⟩ | ⟨q,L',wn,hpL,hpD,hnx,hit1,hg1,hs1,hen⟩
  ·subst hl
   have hall:E.Perm X:=by simpa using HR.out.all
   have hkp:ks.Perm ((E.filter fun q=>decide (q.1.1=p)).map fun q=>q.1.2):=by
    rw [HR.out.keys]
    exact ((hall.symm.filter _).map _)
   have hnd:ks.Nodup:=hkp.nodup_iff.2 HKEY.out
   have hmm:∀ k,k ∈ ks↔k ∈ (st.ms p).map Prod.fst:=fun k=>hkp.mem_iff.trans (HMEM.out k)
   have hso:=sort_is hnd HSRT.out hmm
   have hlen:ks.length≤1000000:=by
    have h1:(ks.mergeSort fun x y=>decide (x≤y)).length=ks.length:=(List.mergeSort_perm ks _).length_eq
    rw [hso,List.length_map] at h1
    have:=HFEW.out
    omega
   have hcs:=sortI_any (w.heap.size+1) _ ks wr HR.out.own hlen
   rw [hso] at hcs;have HCS:=Lib.hid hcs;have HB:=Lib.hid HR.out.bel;clear hcs hso hlen hmm hnd hkp hall;go_wp2_with fail
   refine HCS.out.mono ?_
   rintro e w2 ⟨rfl,ho2,row2,hg2,hr2⟩
   have HO:=Lib.hid (ho2.mono (show w.heap.size≤w.heap.size+1 by omega))
   have HB2:Hid (Below w.heap.size w w2):=⟨hg2.os.trans HB.out.os,hg2.tape.trans HB.out.tape,hg2.output.trans HB.out.output,Nat.le_trans HB.out.size hg2.size,fun x hx=>(hg2.block x (Nat.lt_of_lt_of_le hx HB.out.size) (fun e=>by have:=hr2 x e.symm;omega)).trans (HB.out.block x hx)⟩
   clear ho2 hg2 hr2
   go_wp2
   go_ret
   exact ⟨_,rfl,HO.out,HB2.out⟩
  ·obtain ⟨⟨p1,p2⟩,v⟩:=q
   replace hnx:(Instr.next (.pointer (some ⟨w.heap.size,0,none⟩)) false 0).run Tryz.prog wr = .ok (.tuple #[.bool true,.agg #[.int .i64 p1,.int .i64 p2],v]) wn:=hnx
   replace hen:(Instr.entry (.pointer (some ⟨w.heap.size,0,none⟩))).run Tryz.prog wn = .ok (.tuple #[.agg #[.int .i64 p1,.int .i64 p2],v]) wn:=hen
   have hrlt:=HR.out.it.lt
   have hlen:L'.length < L.length:=by have:=hpL.length_eq;simp at this;omega
   have hok:=HR.out.it.map.ok _ hpD
   have hEp:E.Perm (L' ++ (X ++ [((p1,p2),v)])):=by
    refine HR.out.all.trans ((hpL.append_right X).trans ?_)
    rw [← List.append_assoc]
    exact (List.perm_append_singleton _ _).symm
   have hb1:Below w.heap.size w wn:=⟨hg1.os.trans HR.out.bel.os,hg1.tape.trans HR.out.bel.tape,hg1.output.trans HR.out.bel.output,Nat.le_trans HR.out.bel.size hg1.size,fun x hx=>(hg1.block x (Nat.lt_of_lt_of_le hx HR.out.bel.size) (fun e=>by injection e with e;omega)).trans (HR.out.bel.block x hx)⟩
   have hba:Below wn.heap.size wn (wn.alloc (.cells #[.int .i64 p1,.int .i64 p2] 136)):=(Below.refl _ _).alloc (Nat.le_refl _) _
   have hit2:IterG MP (wn.alloc (.cells #[.int .i64 p1,.int .i64 p2] 136)) h.pb w.heap.size E L':=hit1.grown (World.grownBy_alloc wn _ none) (by simp) (by simp)
   have ho1:=HR.out.own.grown hg1 (fun g hg e=>by have:=(HR.out.own.at_base g hg).1;injection e with e;omega)
   have HKS:=Lib.hid HR.out.keys;have HMS:=Lib.hid HR.out.it.left;have HIT:=Lib.hid hit2
   have HOW:=Lib.hid (ho1.alloc (.cells #[.int .i64 p1,.int .i64 p2] 136))
   have HB1:=Lib.hid (Below.more hb1 (.cells #[.int .i64 p1,.int .i64 p2] 136))
   have HEP:=Lib.hid hEp;have HLN:=Lib.hid hlen
   have HP2:=Lib.hid (show (Lit.int .i64 p2).wf=true from hok.2)
   have hsz:w.heap.size+1≤wn.heap.size:=by rw [hs1];omega
   have HSZ2:Hid (w.heap.size+1≤(wn.alloc (.cells #[.int .i64 p1,.int .i64 p2] 136)).heap.size):=Nat.le_trans hsz (by simp)
   have hkl:ks.length≤1099511627775:=by
    have h1:=(HR.out.all.filter fun q=>decide (q.1.1=p)).length_eq
    rw [List.filter_append,List.length_append] at h1
    have h2:ks.length=(X.filter fun q=>decide (q.1.1=p)).length:=by rw [HR.out.keys,List.length_map]
    have h3:=HEL.out
    omega
   have HKL:=Lib.hid hkl;clear hit1 hit2 hg1 hrlt hok hEp hb1 hba ho1 hlen hpL hpD hsz hkl hs1
   by_cases hpp:p1=p
   ·subst hpp
    have d1:decide (p1=p1)=true:=decide_eq_true rfl
    have b1:(p1 == p1)=true:=by simp
    obtain ⟨W2,hW2⟩:∃ x,wn.alloc (.cells #[.int .i64 p1,.int .i64 p2] 136)=x:=⟨_,rfl⟩
    have HW2:=Lib.hid hW2
    have HNB:Hid (wn.heap.size+1=W2.heap.size):=by show _=_;rw [← hW2];simp
    rw [hW2] at HIT HOW HB1 HSZ2;clear hW2
    go_wp2_with (first | (rw [HW2.out,HNB.out]) | (at_builtin;refine app_one i64T i64I (by decide) rfl (.tmp 20) (.tmp 23) rfl _ (w.heap.size+1) _ ks rfl HOW.out _ rfl HP2.out HKL.out HSZ2.out ?_;intro x3 w3 ho3 hg3))
    have hb3:Below w.heap.size w w3:=HB1.out.trans (hg3.below HB1.out.size (fun g hg=>by have:=(HOW.out.at_base g hg).1;omega))
    have HR2:Hid (StR p1 w h.pb E w3 x3 L' (X ++ [((p1,p2),v)]) (ks ++ [p2])):=⟨HIT.out.grown hg3.1 (fun e=>by have:=(HOW.out.at_base _ e.symm).1;have:=HPB.out;omega) (fun e=>by have:=(HOW.out.at_base _ e.symm).1;omega),HEP.out,by rw [List.filter_append,List.filter_cons,if_pos (by simp),List.filter_nil,List.map_append,HKS.out];rfl,ho3,hb3⟩
    clear hb3 ho3 hg3
    go_roundw
    case rel=>exact ⟨_,_,_,HR2⟩
    case measure=>rw [HR2.out.it.left,HMS.out];exact HLN.out
   ·have d1:decide (p1=p)=false:=decide_eq_false hpp
    have b1:(p1 == p)=false:=by simpa using hpp
    have HR2:Hid (StR p w h.pb E (wn.alloc (.cells #[.int .i64 p1,.int .i64 p2] 136)) _ L' (X ++ [((p1,p2),v)]) ks):=⟨HIT.out,HEP.out,by rw [List.filter_append,List.filter_cons,if_neg (by simpa using hpp),List.filter_nil,List.append_nil];exact HKS.out,HOW.out,HB1.out⟩
    go_wp2
    go_roundw
    case rel=>exact ⟨_,_,_,HR2⟩
    case measure=>rw [HR2.out.it.left,HMS.out];exact HLN.out
end
theorem pidsK_mem {v:BitVec 64}:∀ {k:Nat} {p:Int},p ∈ pidsK v k↔(0≤p∧p < k∧v.getLsbD p.toNat=true)
 | 0,p=>by simp [pidsK];omega
 | k+1,p=>by
  have ih:=pidsK_mem (v:=v) (k:=k) (p:=p)
  rw [pidsK]
  by_cases h:v.getLsbD k=true
  ·rw [if_pos h,List.mem_append,ih,List.mem_singleton]
   constructor
   ·rintro (⟨h1,h2,h3⟩ | rfl)
    ·exact ⟨h1,by omega,h3⟩
    ·exact ⟨by omega,by omega,by simpa using h⟩
   ·rintro ⟨h1,h2,h3⟩
    by_cases e:p=(k:Int)
    ·exact .inr e
    ·exact .inl ⟨h1,by omega,h3⟩
  ·rw [if_neg h,ih]
   constructor
   ·rintro ⟨h1,h2,h3⟩
    exact ⟨h1,by omega,h3⟩
   ·rintro ⟨h1,h2,h3⟩
    refine ⟨h1,?_,h3⟩
    have:p ≠ (k:Int):=fun e=>h (by rw [e] at h3;simpa using h3)
    omega
def Mc.pids (st:Mc):List Int:=pidsK st.v st.pr
theorem McOk.mem {st:Mc} (h:McOk st) (p:Int):p ∈ st.pids↔st.has p=true:=by
 unfold Mc.pids Mc.has hasB
 rw [pidsK_mem,h.prI]
 simp
set_option linter.unusedSimpArgs false
section
variable {No:Nat→Prop} {h:McH} {st:Mc} {w:World}
end
theorem RgV.grown {w w':World} {No:Nat→Prop} {v:Value} {L:List Rg} {b:Nat} (h:RgV w No v L) (hg:w.grownBy w' (some b)) (hb:No b):RgV w' No v L:=
 h.tn ((Tn.refl (fun k=>k=b) w).put hg (.inl rfl)) (fun k e=>by rw [e];exact hb)
theorem RgV.below {w w':World} {No:Nat→Prop} {v:Value} {L:List Rg} (h:RgV w No v L) (b:Below w.heap.size w w'):RgV w' No v L:=h.tn (Tn.of (Q:=fun _=>False) b) (fun _ h=>h.elim)
theorem has_put {n:Int} {v:BitVec 64} {k:Nat} (hk:(k:Int) < n) (hn:n≤64) (p:Int):hasB n (v ||| qbit k) p=(hasB n v p || decide (p=(k:Int))):=by
 unfold hasB
 by_cases h0:0≤p∧p < n
 ·have h1:p.toNat < 64:=by omega
  rw [put_get v k p.toNat h1,decide_eq_true h0.1,decide_eq_true h0.2]
  have:(p.toNat=k)↔(p=(k:Int)):=by omega
  simp [this]
 ·have:p ≠ (k:Int):=by omega
  have e:decide (p=(k:Int))=false:=decide_eq_false this
  rw [e]
  by_cases h1:0≤p
  ·have h2:¬ p < n:=fun h=>h0 ⟨h1,h⟩
   simp [h2]
  ·simp [h1]
theorem has_drop {n:Int} {v:BitVec 64} {k:Nat} (hn:n≤64) (p:Int):hasB n (v &&& ~~~ qbit k) p=(hasB n v p && !decide (p=(k:Int))):=by
 unfold hasB
 by_cases h0:0≤p∧p < n
 ·have h1:p.toNat < 64:=by omega
  rw [drop_get v k p.toNat h1,decide_eq_true h0.1,decide_eq_true h0.2]
  have:(p.toNat=k)↔(p=(k:Int)):=by omega
  simp [this]
 ·by_cases h1:0≤p
  ·have h2:¬ p < n:=fun h=>h0 ⟨h1,h⟩
   simp [h2]
  ·simp [h1]
/-- A number taken. -/
theorem ok_taken {st:Mc} (h:McOk st) {k:Nat} (hk:k < st.pr):McOk { st with v:=st.v ||| qbit k }:=by
 have hp:=h.prI
 have hc:=h.cf.procs
 refine ⟨h.cf,fun i hi=>?_,h.cn,h.wi,fun p hn=>h.gone p ?_,h.srt,h.pg⟩
 ·replace hi:st.pr≤i:=hi
  by_cases h64:i < 64
  ·rw [put_get st.v k i h64,h.low i hi]
   simp
   omega
  ·exact BitVec.getLsbD_of_ge _ _ (by omega)
 ·replace hn:hasB st.c.procs (st.v ||| qbit k) p=false:=hn
  rw [has_put (by omega) hc.2] at hn
  unfold Mc.has
  cases hh:hasB st.c.procs st.v p with
  | false=>rfl
  | true=>rw [hh] at hn;simp at hn
theorem McIn.taken {w w':World} {No:Nat→Prop} {h:McH} {st:Mc} (i:McIn w No h st) {k:Nat} (hk:k < st.pr) (hs:SetAt w' h.sb st.c.procs (st.v ||| qbit k)) (hg:w.grownBy w' (some h.sb)):McIn w' No h { st with v:=st.v ||| qbit k }:=by
 have t:Tn (fun k=>k=h.sb) w w':=(Tn.refl _ w).put hg (.inl rfl)
 have q0:∀ k,k=h.sb→No k:=fun k hk=>by rw [hk];exact i.no.1
 have hp:=i.ok.prI
 have hc:=i.ok.cf.procs
 obtain ⟨D,E,e1,e2,e3,e4⟩:=i.dat
 refine ⟨row_tn i.row t (fun e=>i.no.2.2.2 (q0 _ e)),hs,⟨D,E,e1.at (t.block _ e1.lt (fun e=>i.ne.1 e.symm)),e2.at (t.block _ e2.lt (fun e=>i.ne.2.1 e.symm)),⟨fun q hq=>⟨?_,(e3.all q hq).2.tn t q0⟩,e3.gone⟩,⟨fun q hq=>?_,e4.has⟩⟩,ok_taken i.ok hk,i.no,i.ne,fun k hk=>Nat.lt_of_lt_of_le (i.lt k hk) t.size⟩
 ·show hasB st.c.procs (st.v ||| qbit k) q.1=true
  rw [has_put (by omega) hc.2]
  have:=(e3.all q hq).1
  unfold Mc.has at this
  rw [this];rfl
 ·obtain ⟨c,hc,hv⟩:=e4.all q hq
  exact ⟨c,hc,hv.tn t q0⟩
/-- Regions laid. -/
theorem ok_laid {st:Mc} (h:McOk st) {p:Int} {L:List Rg} (hp:st.has p=true) (hcn:Cn st.c.regions.toNat L) (hwi:Within st.c.pages L) (hpg:∀ x ∈ st.ms p,findB L x.1=true):McOk { st with rs:=upd st.rs p L }:=by
 refine ⟨h.cf,h.low,fun q=>?_,fun q=>?_,fun q hq=>?_,h.srt,fun q x hx=>⟨(h.pg q x hx).1,?_⟩⟩
 ·show Cn _ (upd st.rs p L q)
  by_cases e:q=p
  ·rw [e,upd_same];exact hcn
  ·rw [upd_other _ _ e];exact h.cn q
 ·show Within _ (upd st.rs p L q)
  by_cases e:q=p
  ·rw [e,upd_same];exact hwi
  ·rw [upd_other _ _ e];exact h.wi q
 ·have hne:q ≠ p:=fun e=>by rw [e] at hq;exact absurd (hp.symm.trans hq) (by simp)
  exact ⟨(upd_other _ _ hne).trans (h.gone q hq).1,(h.gone q hq).2⟩
 ·show findB (upd st.rs p L q) x.1=true
  by_cases e:q=p
  ·rw [e,upd_same]
   rw [e] at hx
   exact hpg x hx
  ·rw [upd_other _ _ e]
   exact (h.pg q x hx).2
theorem rgs_laid {w w':World} {No:Nat→Prop} {st:Mc} {D:List (Int × Value)} (e3:RgsIn w No st D) {lb:Nat} (t:Tn (fun k=>k=lb) w w') (q0:No lb) {p:Int} {v:Value} {L:List Rg} (hp:st.has p=true) (hv:RgV w' No v L):RgsIn w' No { st with rs:=upd st.rs p L } (kput D p v):=by
 refine ⟨fun q hq=>?_,fun s hs=>?_⟩
 ·rcases kput_mem.1 hq with rfl | ⟨hq,hne⟩
  ·refine ⟨hp,?_⟩
   show RgV w' No v (upd st.rs p L p)
   rw [upd_same]
   exact hv
  ·refine ⟨(e3.all q hq).1,?_⟩
   show RgV w' No q.2 (upd st.rs p L q.1)
   rw [upd_other _ _ hne]
   exact (e3.all q hq).2.tn t (fun k hk=>by rw [hk];exact q0)
 ·have hne:s ≠ p:=fun e=>hs (p,v) (kput_mem.2 (.inl rfl)) e.symm
  show upd st.rs p L s=[]
  rw [upd_other _ _ hne]
  exact e3.gone s (fun q hq e=>hs q (kput_mem.2 (.inr ⟨hq,fun e2=>hne (by rw [← e,e2])⟩)) e)
theorem McIn.laid {w w':World} {No:Nat→Prop} {h:McH} {st:Mc} (i:McIn w No h st) {D:List (Int × Value)} {E:List ((Int × Int) × Value)} (e2:MapG MP w h.pb E) (e3:RgsIn w No st D) (e4:PgsIn w No st E)
  {p:Int} {L:List Rg} {v:Value} (hp:st.has p=true) (hcn:Cn st.c.regions.toNat L) (hwi:Within st.c.pages L) (hpg:∀ x ∈ st.ms p,findB L x.1=true) (hM:MapG MR w' h.lb (kput D p v)) (t:Tn (fun k=>k=h.lb) w w') (hv:RgV w' No v L) :
  McIn w' No h { st with rs:=upd st.rs p L }:=by
 have q0:∀ k,k=h.lb→No k:=fun k hk=>by rw [hk];exact i.no.2.1
 refine ⟨row_tn i.row t (fun e=>i.no.2.2.2 (q0 _ e)),row_tn i.set t i.ne.1,⟨kput D p v,E,hM,e2.at (t.block _ e2.lt (fun e=>i.ne.2.2 e.symm)),rgs_laid e3 t i.no.2.1 hp hv,⟨(e4.tn t q0).all,e4.has⟩⟩,ok_laid i.ok hp hcn hwi hpg,i.no,i.ne,fun k hk=>Nat.lt_of_lt_of_le (i.lt k hk) t.size⟩
theorem pgSet_last {L:List (Int × List Int)} {n:Int} {b:List Int} (h:SrtP (L ++ [(n,b)])):pgSet L n b=L ++ [(n,b)]:=by
 have hL:SrtP L:=(List.pairwise_append.1 h).1
 have hx:=(List.pairwise_append.1 h).2.2
 refine srt_ext (pgSet_srt hL) h (fun p=>?_)
 rw [pgSet_mem hL,List.mem_append,List.mem_singleton]
 constructor
 ·rintro (e | ⟨hp,_⟩)
  ·exact .inr e
  ·exact .inl hp
 ·rintro (hp | e)
  ·refine .inr ⟨hp,fun e=>?_⟩
   have:=hx p hp (n,b) (List.mem_singleton.2 rfl)
   rw [e] at this
   exact absurd this (by simp)
  ·exact .inl e
end Go.Proofs.YtnbjodoajfkekaaGreat
