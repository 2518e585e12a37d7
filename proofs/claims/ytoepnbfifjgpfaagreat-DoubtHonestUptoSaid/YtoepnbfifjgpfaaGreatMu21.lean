/- The machine: which pages were stored; how much there is. The machine: how much there is. The machine: how much there is (Weight). The machine: a number taken, let go; regions laid. -/
import Derived.Test.YtoepnbfifjgpfaaGreatMu0
import Derived.Test.YtoepnbfifjgpfaaGreatMu20
import Derived.WalkKit
import Derived.ProofKit
import Derived.BigQuiet
import Derived.Deep.QuietTactic
import Derived.Lib.Hide
import Derived.RegionTactic
namespace Go.Proofs.YtoepnbfifjgpfaaGreat
set_option maxRecDepth 100000
open Go.RowKit
/-- A process's pages being collected. -/
structure StR (p:Int) (w:World) (b:Nat) (E:List ((Int × Int) × Value)) (wr:World) (v:Value) (L X:List ((Int × Int) × Value)) (ks:List Int):Prop where
 it:IterG MP wr b w.heap.size E L
 all:E.Perm (L ++ X)
 keys:ks=(X.filter fun q=>decide (q.1.1=p)).map fun q=>q.1.2
 own:Owns .i64 3 wr (w.heap.size+1) v ks
 bel:Below w.heap.size w wr
theorem stored_keys {E:List ((Int × Int) × Value)} (h:(E.map Prod.fst).Nodup) (p:Int):((E.filter fun q=>decide (q.1.1=p)).map fun q=>q.1.2).Nodup:=by
 induction E with
 | nil=>simp
 | cons x r ih=>
  rw [List.map_cons,List.nodup_cons] at h;rw [List.filter_cons]
  by_cases e:x.1.1=p
  ·rw [if_pos (by simpa using e),List.map_cons,List.nodup_cons]
   refine ⟨fun hm=>?_,ih h.2⟩
   obtain ⟨y,hy,hyx⟩:=List.mem_map.1 hm
   obtain ⟨hy1,hy2⟩:=List.mem_filter.1 hy
   have hy3:y.1.1=p:=by simpa using hy2
   refine h.1 (List.mem_map.2 ⟨y,hy1,?_⟩)
   exact Prod.ext (by rw [hy3,e]) hyx
  ·rw [if_neg (by simpa using e)]
   exact ih h.2
section
variable {No:Nat→Prop} {h:McH} {st:Mc} {w:World}
theorem stored_mem {E:List ((Int × Int) × Value)} (e4:PgsIn w No st E) (p k:Int):(k ∈ (E.filter fun q=>decide (q.1.1=p)).map fun q=>q.1.2)↔k ∈ (st.ms p).map Prod.fst:=by
 rw [List.mem_map,List.mem_map]
 constructor
 ·rintro ⟨q,hq,rfl⟩
  obtain ⟨h1,h2⟩:=List.mem_filter.1 hq
  have h3:q.1.1=p:=by simpa using h2
  obtain ⟨b,hb,_⟩:=e4.all q h1
  rw [h3] at hb
  exact ⟨_,hb,rfl⟩
 ·rintro ⟨x,hx,rfl⟩
  obtain ⟨v,hv⟩:=e4.has p x hx
  exact ⟨_,List.mem_filter.2 ⟨hv,by simp⟩,rfl⟩
theorem SrtP.keys {L:List (Int × List Int)} (hs:SrtP L):(L.map Prod.fst).Pairwise (fun a b=>a < b):=by
 rw [List.pairwise_map]
 exact hs
set_option maxHeartbeats 2000000 in
theorem stored_any (i:McIn w No h st) (p:Int) :
  Calls Tryz.prog 44 #[.pointer (some ⟨h.m,0,none⟩),.int .i64 p] w (GivesPids ((st.ms p).map Prod.fst) w):=by
 obtain ⟨c4,c6,c7,c8,c9,c10,c11⟩:=i.cells
 obtain ⟨D,E,e1,e2,e3,e4⟩:=i.dat
 obtain ⟨w0,hrun,hit,hg0,hs0⟩:=mg_range e2
 have ST:Hid (StR p w h.pb E w0 (.slice none 0 0) E [] []):=⟨hit,by simp,rfl,Owns.nil _ _ _ _,⟨hg0.os,hg0.tape,hg0.output,hg0.size,fun k hk=>hg0.block k hk (by simp)⟩⟩
 have HPB:=Lib.hid e2.lt
 have HMEM:=Lib.hid (fun k=>stored_mem e4 p k)
 have HKEY:=Lib.hid (stored_keys e2.nodup p)
 have HSRT:=Lib.hid (i.ok.srt p).keys
 have HFEW:=Lib.hid (i.ok.few p)
 have HEL:Hid ((E.filter fun q=>decide (q.1.1=p)).length≤65536):=by
  have hp:=(List.perm_ext_iff_of_nodup HKEY.out (HSRT.out.imp (fun h=>by omega))).2 HMEM.out
  have h1:=hp.length_eq
  rw [List.length_map,List.length_map] at h1
  have h2:=HFEW.out
  show _≤_
  omega
 clear hit hg0 hs0 e1 e2 e3 e4 i c4 c6 c7 c8 c9 c10
 go_enter Tryz.func44,Tryz.ntmps44
 go_wp2_with fail
 go_loopw [5] (fun v wr=>∃ L X ks,Hid (StR p w h.pb E wr v L X ks)) (fun _ wr=>wr.rangeLeft h.pb w.heap.size)
 case atStart=>exact ⟨_,_,_,ST⟩
 case round=>
  clear ST hrun c11
  obtain ⟨L,X,ks,HR⟩:=hrel
  rcases ig_next HR.out.it 0 with ⟨hl,hnx⟩ | ⟨q,L',wn,hpL,hpD,hnx,hit1,hg1,hs1,hen⟩
  ·subst hl
   have hall:E.Perm X:=by simpa using HR.out.all
   have hkp:ks.Perm ((E.filter fun q=>decide (q.1.1=p)).map fun q=>q.1.2):=by
    rw [HR.out.keys]
    exact ((hall.symm.filter _).map _)
   have hnd:ks.Nodup:=hkp.nodup_iff.2 HKEY.out
   have hmm:∀ k,k ∈ ks↔k ∈ (st.ms p).map Prod.fst:=fun k=>hkp.mem_iff.trans (HMEM.out k)
   have hso:=sort_is hnd HSRT.out hmm
   have hlen:ks.length≤1000000:=by
    have h1:(ks.mergeSort fun x y=>decide (x≤y)).length=ks.length:=(List.mergeSort_perm ks _).length_eq
    rw [hso,List.length_map] at h1
    have:=HFEW.out
    omega
   have hcs:=sortI_any (w.heap.size+1) _ ks wr HR.out.own hlen
   rw [hso] at hcs;have HCS:=Lib.hid hcs;have HB:=Lib.hid HR.out.bel;clear hcs hso hlen hmm hnd hkp hall;go_wp2_with fail
   refine HCS.out.mono ?_
   rintro e w2 ⟨rfl,ho2,row2,hg2,hr2⟩
   have HO:=Lib.hid (ho2.mono (show w.heap.size≤w.heap.size+1 by omega))
   have HB2:Hid (Below w.heap.size w w2):=⟨hg2.os.trans HB.out.os,hg2.tape.trans HB.out.tape,hg2.output.trans HB.out.output,Nat.le_trans HB.out.size hg2.size,fun x hx=>(hg2.block x (Nat.lt_of_lt_of_le hx HB.out.size) (fun e=>by have:=hr2 x e.symm;omega)).trans (HB.out.block x hx)⟩
   clear ho2 hg2 hr2
   go_wp2
   go_ret
   exact ⟨_,rfl,HO.out,HB2.out⟩
  ·obtain ⟨⟨p1,p2⟩,v⟩:=q
   replace hnx:(Instr.next (.pointer (some ⟨w.heap.size,0,none⟩)) false 0).run Tryz.prog wr = .ok (.tuple #[.bool true,.agg #[.int .i64 p1,.int .i64 p2],v]) wn:=hnx
   replace hen:(Instr.entry (.pointer (some ⟨w.heap.size,0,none⟩))).run Tryz.prog wn = .ok (.tuple #[.agg #[.int .i64 p1,.int .i64 p2],v]) wn:=hen
   have hrlt:=HR.out.it.lt
   have hlen:L'.length < L.length:=by have:=hpL.length_eq;simp at this;omega
   have hok:=HR.out.it.map.ok _ hpD
   have hEp:E.Perm (L' ++ (X ++ [((p1,p2),v)])):=by
    refine HR.out.all.trans ((hpL.append_right X).trans ?_)
    rw [← List.append_assoc]
    exact (List.perm_append_singleton _ _).symm
   have hb1:Below w.heap.size w wn:=⟨hg1.os.trans HR.out.bel.os,hg1.tape.trans HR.out.bel.tape,hg1.output.trans HR.out.bel.output,Nat.le_trans HR.out.bel.size hg1.size,fun x hx=>(hg1.block x (Nat.lt_of_lt_of_le hx HR.out.bel.size) (fun e=>by injection e with e;omega)).trans (HR.out.bel.block x hx)⟩
   have hba:Below wn.heap.size wn (wn.alloc (.cells #[.int .i64 p1,.int .i64 p2] 107)):=(Below.refl _ _).alloc (Nat.le_refl _) _
   have hit2:IterG MP (wn.alloc (.cells #[.int .i64 p1,.int .i64 p2] 107)) h.pb w.heap.size E L':=hit1.grown (World.grownBy_alloc wn _ none) (by simp) (by simp)
   have ho1:=HR.out.own.grown hg1 (fun g hg e=>by have:=(HR.out.own.at_base g hg).1;injection e with e;omega)
   have HKS:=Lib.hid HR.out.keys;have HMS:=Lib.hid HR.out.it.left;have HIT:=Lib.hid hit2
   have HOW:=Lib.hid (ho1.alloc (.cells #[.int .i64 p1,.int .i64 p2] 107))
   have HB1:=Lib.hid (Below.more hb1 (.cells #[.int .i64 p1,.int .i64 p2] 107))
   have HEP:=Lib.hid hEp;have HLN:=Lib.hid hlen
   have HP2:=Lib.hid (show (Lit.int .i64 p2).wf=true from hok.2)
   have hsz:w.heap.size+1≤wn.heap.size:=by rw [hs1];omega
   have HSZ2:Hid (w.heap.size+1≤(wn.alloc (.cells #[.int .i64 p1,.int .i64 p2] 107)).heap.size):=Nat.le_trans hsz (by simp)
   have hkl:ks.length≤1099511627775:=by
    have h1:=(HR.out.all.filter fun q=>decide (q.1.1=p)).length_eq
    rw [List.filter_append,List.length_append] at h1
    have h2:ks.length=(X.filter fun q=>decide (q.1.1=p)).length:=by rw [HR.out.keys,List.length_map]
    have h3:=HEL.out
    omega
   have HKL:=Lib.hid hkl;clear hit1 hit2 hg1 hrlt hok hEp hb1 hba ho1 hlen hpL hpD hsz hkl hs1
   by_cases hpp:p1=p
   ·subst hpp
    have d1:decide (p1=p1)=true:=decide_eq_true rfl
    have b1:(p1 == p1)=true:=by simp
    obtain ⟨W2,hW2⟩:∃ x,wn.alloc (.cells #[.int .i64 p1,.int .i64 p2] 107)=x:=⟨_,rfl⟩
    have HW2:=Lib.hid hW2
    have HNB:Hid (wn.heap.size+1=W2.heap.size):=by show _=_;rw [← hW2];simp
    rw [hW2] at HIT HOW HB1 HSZ2;clear hW2
    go_wp2_with (first | (rw [HW2.out,HNB.out]) | (at_builtin;refine app_one i64T i64I (by decide) rfl (.tmp 20) (.tmp 23) rfl _ (w.heap.size+1) _ ks rfl HOW.out _ rfl HP2.out HKL.out HSZ2.out ?_;intro x3 w3 ho3 hg3))
    have hb3:Below w.heap.size w w3:=HB1.out.trans (hg3.below HB1.out.size (fun g hg=>by have:=(HOW.out.at_base g hg).1;omega))
    have HR2:Hid (StR p1 w h.pb E w3 x3 L' (X ++ [((p1,p2),v)]) (ks ++ [p2])):=⟨HIT.out.grown hg3.1 (fun e=>by have:=(HOW.out.at_base _ e.symm).1;have:=HPB.out;omega) (fun e=>by have:=(HOW.out.at_base _ e.symm).1;omega),HEP.out,by rw [List.filter_append,List.filter_cons,if_pos (by simp),List.filter_nil,List.map_append,HKS.out];rfl,ho3,hb3⟩
    clear hb3 ho3 hg3
    go_roundw
    case rel=>exact ⟨_,_,_,HR2⟩
    case measure=>rw [HR2.out.it.left,HMS.out];exact HLN.out
   ·have d1:decide (p1=p)=false:=decide_eq_false hpp
    have b1:(p1 == p)=false:=by simpa using hpp
    have HR2:Hid (StR p w h.pb E (wn.alloc (.cells #[.int .i64 p1,.int .i64 p2] 107)) _ L' (X ++ [((p1,p2),v)]) ks):=⟨HIT.out,HEP.out,by rw [List.filter_append,List.filter_cons,if_neg (by simpa using hpp),List.filter_nil,List.append_nil];exact HKS.out,HOW.out,HB1.out⟩
    go_wp2
    go_roundw
    case rel=>exact ⟨_,_,_,HR2⟩
    case measure=>rw [HR2.out.it.left,HMS.out];exact HLN.out
end
theorem pidsK_mem {v:BitVec 64}:∀ {k:Nat} {p:Int},p ∈ pidsK v k↔(0≤p∧p < k∧v.getLsbD p.toNat=true)
 | 0,p=>by simp [pidsK];omega
 | k+1,p=>by
  have ih:=pidsK_mem (v:=v) (k:=k) (p:=p)
  rw [pidsK]
  by_cases h:v.getLsbD k=true
  ·rw [if_pos h,List.mem_append,ih,List.mem_singleton]
   constructor
   ·rintro (⟨h1,h2,h3⟩ | rfl)
    ·exact ⟨h1,by omega,h3⟩
    ·exact ⟨by omega,by omega,by simpa using h⟩
   ·rintro ⟨h1,h2,h3⟩
    by_cases e:p=(k:Int)
    ·exact .inr e
    ·exact .inl ⟨h1,by omega,h3⟩
  ·rw [if_neg h,ih]
   constructor
   ·rintro ⟨h1,h2,h3⟩
    exact ⟨h1,by omega,h3⟩
   ·rintro ⟨h1,h2,h3⟩
    refine ⟨h1,?_,h3⟩
    have:p ≠ (k:Int):=fun e=>h (by rw [e] at h3;simpa using h3)
    omega
theorem pidsK_srt {v:BitVec 64}:∀ (k:Nat),(pidsK v k).Pairwise (fun a b=>a < b)
 | 0=>List.Pairwise.nil
 | k+1=>by
  rw [pidsK]
  split
  ·rw [List.pairwise_append]
   refine ⟨pidsK_srt k,by simp,fun a ha b hb=>?_⟩
   rw [List.mem_singleton] at hb
   have:=(pidsK_mem.1 ha).2.1
   omega
  ·exact pidsK_srt k
def Mc.pids (st:Mc):List Int:=pidsK st.v st.pr
theorem McOk.mem {st:Mc} (h:McOk st) (p:Int):p ∈ st.pids↔st.has p=true:=by
 unfold Mc.pids Mc.has hasB
 rw [pidsK_mem,h.prI]
 simp
theorem McOk.nd {st:Mc}:st.pids.Nodup:=(pidsK_srt st.pr).imp (fun h=>by omega)
/-- How much a machine weighs. -/
def oneW (st:Mc) (p:Int):Int:=1+((st.rs p).length:Int)+((st.ms p).length:Int)
def weightM (st:Mc):Int:=(st.pids.map (oneW st)).sum
theorem sum_perm {l m:List Int} (h:l.Perm m):l.sum=m.sum:=by
 induction h with
 | nil=>rfl
 | cons x _ ih=>simp [ih]
 | swap x y l=>simp;omega
 | trans _ _ ih1 ih2=>exact ih1.trans ih2
theorem sum_zero {f:Int→Int} {l:List Int} (h:∀ x ∈ l,f x=0):(l.map f).sum=0:=by
 induction l with
 | nil=>rfl
 | cons x r ih=>
  rw [List.map_cons,List.sum_cons,h x (List.mem_cons_self ..),ih (fun y hy=>h y (List.mem_cons_of_mem _ hy))];rfl
theorem sum_sub {f:Int→Int}:∀ {A B:List Int},A.Nodup→B.Nodup→(∀ x ∈ A,x ∈ B)→(∀ x ∈ B,x ∉ A→f x=0)→(A.map f).sum=(B.map f).sum
 | [],B,_,_,_,h=>(sum_zero (fun x hx=>h x hx (by simp))).symm
 | a :: A,B,hA,hB,hs,h0=>by
  have h1:=List.nodup_cons.1 hA
  have ha:=hs a (List.mem_cons_self ..)
  have hp:B.Perm (a :: B.erase a):=List.perm_cons_erase ha
  rw [sum_perm (hp.map f),List.map_cons,List.map_cons,List.sum_cons,List.sum_cons]
  congr 1
  refine sum_sub h1.2 (hB.erase a) (fun x hx=>?_) (fun x hx hn=>?_)
  ·have hne:x ≠ a:=fun e=>h1.1 (by rw [← e];exact hx)
   exact (List.mem_erase_of_ne hne).2 (hs x (List.mem_cons_of_mem _ hx))
  ·refine h0 x (List.mem_of_mem_erase hx) (fun hm=>?_)
   rcases List.mem_cons.1 hm with rfl | hm
   ·exact (List.Nodup.not_mem_erase hB) hx
   ·exact hn hm
theorem len_sum {α:Type} {key:α→Int}:∀ (E:List α) {B:List Int},B.Nodup→(∀ x ∈ E,key x ∈ B)→(E.length:Int)=(B.map fun p=>((E.filter fun x=>decide (key x=p)).length:Int)).sum
 | [],B,_,_=>by
  rw [sum_zero (fun x _=>by simp)]
  rfl
 | x :: r,B,hB,hk=>by
  have ih:=len_sum r hB (fun y hy=>hk y (List.mem_cons_of_mem _ hy))
  have hx:=hk x (List.mem_cons_self ..)
  have hp:B.Perm (key x :: B.erase (key x)):=List.perm_cons_erase hx
  rw [sum_perm (hp.map _),List.map_cons,List.sum_cons] at ih ⊢
  have e1:((x :: r).filter fun y=>decide (key y=key x))=x :: r.filter fun y=>decide (key y=key x):=by
   rw [List.filter_cons,if_pos (by simp)]
  have e2:(B.erase (key x)).map (fun p=>(((x :: r).filter fun y=>decide (key y=p)).length:Int))=(B.erase (key x)).map (fun p=>((r.filter fun y=>decide (key y=p)).length:Int)):=by
   refine List.map_congr_left (fun p hp2=>?_)
   have hne:key x ≠ p:=fun e=>(List.Nodup.not_mem_erase hB) (by rw [← e] at hp2;exact hp2)
   rw [List.filter_cons,if_neg (by simpa using hne)]
  rw [e1,e2,List.length_cons,List.length_cons]
  omega
def vlenV:Value→Int
 | .slice _ n _=>n
 | _=>0
def sumV {κ:Type} (D:List (κ × Value)):Int:=(D.map fun q=>vlenV q.2).sum
theorem sumV_perm {κ:Type} {D D':List (κ × Value)} (h:D.Perm D'):sumV D=sumV D':=sum_perm (h.map _)
theorem RgV.len {w:World} {No:Nat→Prop} {v:Value} {L:List Rg} (h:RgV w No v L):vlenV v=L.length:=by
 obtain ⟨a,n,c,rfl,r,_⟩:=h
 unfold vlenV
 rw [r.len]
theorem weight_sum {w:World} {No:Nat→Prop} {h:McH} {st:Mc} (i:McIn w No h st) {D:List (Int × Value)} {E:List ((Int × Int) × Value)} (e1:MapG MR w h.lb D) (e2:MapG MP w h.pb E) (e3:RgsIn w No st D) (e4:PgsIn w No st E) :
  (st.pids.length:Int)+(E.length:Int)+sumV D=weightM st:=by
 have hE:(E.length:Int)=(st.pids.map fun p=>((st.ms p).length:Int)).sum:=by
  rw [len_sum (key:=fun q:(Int × Int) × Value=>q.1.1) E (McOk.nd (st:=st)) (fun x hx=>by
   rw [i.ok.mem]
   obtain ⟨b,hb,_⟩:=e4.all x hx
   cases hh:st.has x.1.1 with
   | true=>rfl
   | false=>rw [(i.ok.gone _ hh).2] at hb;cases hb)]
  congr 1
  refine List.map_congr_left (fun p _=>?_)
  have hp:=(List.perm_ext_iff_of_nodup (stored_keys e2.nodup p) ((i.ok.srt p).keys.imp (fun h=>by omega))).2 (fun k=>stored_mem e4 p k)
  have:=hp.length_eq
  rw [List.length_map,List.length_map] at this;rw [this]
 have hD:sumV D=(st.pids.map fun p=>((st.rs p).length:Int)).sum:=by
  have h1:sumV D=((D.map Prod.fst).map fun p=>((st.rs p).length:Int)).sum:=by
   unfold sumV
   rw [List.map_map]
   congr 1
   refine List.map_congr_left (fun q hq=>?_)
   exact (e3.all q hq).2.len
  rw [h1]
  refine sum_sub e1.nodup (McOk.nd (st:=st)) (fun x hx=>?_) (fun x _ hn=>?_)
  ·obtain ⟨q,hq,rfl⟩:=List.mem_map.1 hx
   exact (i.ok.mem _).2 (e3.all q hq).1
  ·rw [e3.gone x (fun q hq e=>hn (List.mem_map.2 ⟨q,hq,e⟩))]
   rfl
 rw [hE,hD]
 unfold weightM
 generalize st.pids=B
 induction B with
 | nil=>rfl
 | cons p r ih=>
  simp only [List.map_cons,List.sum_cons,List.length_cons]
  unfold oneW
  unfold oneW at ih
  omega
theorem sum_bd {f:Int→Int} {m:Int}:∀ {l:List Int},(∀ x ∈ l,0≤f x∧f x≤m)→0≤(l.map f).sum∧(l.map f).sum≤m * l.length
 | [],_=>by simp
 | x :: r,h=>by
  have h1:=h x (List.mem_cons_self ..)
  have h2:=sum_bd (fun y hy=>h y (List.mem_cons_of_mem _ hy))
  simp only [List.map_cons,List.sum_cons,List.length_cons]
  have e:m * ((r.length+1:Nat):Int)=m * (r.length:Int)+m:=by
   rw [Int.natCast_add,Int.mul_add]
   simp
  omega
theorem weight_bd {w:World} {No:Nat→Prop} {h:McH} {st:Mc} (i:McIn w No h st):0≤weightM st∧weightM st≤10000000:=by
 have h1:=sum_bd (f:=oneW st) (m:=65600) (l:=st.pids) (fun p _=>by
  have:=i.few p
  have:=i.ok.few p
  unfold oneW
  omega)
 have h2:=pidsK_le st.v st.pr
 have h3:=i.ok.prL
 have h4:(st.pids.length:Int)≤64:=by unfold Mc.pids;omega
 have h5:65600 * (st.pids.length:Int)≤65600 * 64:=by omega
 unfold weightM
 omega
set_option linter.unusedSimpArgs false
theorem mg_lenrun {P:Program} {T k e:TypeId} {κ ν:Type} {M:MapK P T k e κ ν} {w:World} {b:Nat} {D:List (κ × ν)} (h:MapG M w b D) (ty:TypeId):(Builtin.len_ #[T] ty #[.map (some b)]).run P w = .ok (.int .i64 (D.length:Nat)) w:=by
 obtain ⟨es,clock,hb,hs⟩:=mg_len h
 simp [Builtin.len_,run_underlying M.under,MapKept.run_getObj_map hb,goInt,Result.andThen,hs]
theorem sum_append (l m:List Int):(l ++ m).sum=l.sum+m.sum:=by
 induction l with
 | nil=>simp
 | cons x r ih=>simp [ih];omega
/-- Weighing under way. -/
structure WtR (w:World) (b:Nat) (D:List (Int × Value)) (r:Nat) (wr:World) (L X:List (Int × Value)):Prop where
 it:IterG MR wr b r D L
 all:D.Perm (L ++ X)
 bel:Below w.heap.size w wr
 r:w.heap.size≤r
section
variable {No:Nat→Prop} {h:McH} {st:Mc} {w:World}
set_option maxHeartbeats 2000000 in
theorem weight_any (i:McIn w No h st):Calls Tryz.prog 76 #[.pointer (some ⟨h.m,0,none⟩)] w fun e w'=>e = .returned (.int .i64 (weightM st))∧Below w.heap.size w w':=by
 obtain ⟨c4,c6,c7,c8,c9,c10,c11⟩:=i.cells
 obtain ⟨D,E,e1,e2,e3,e4⟩:=i.dat
 have hsum:=weight_sum i e1 e2 e3 e4
 have hbd:=weight_bd i
 obtain ⟨W,hW⟩:∃ x,weightM st=x:=⟨_,rfl⟩
 rw [hW] at hsum hbd ⊢
 have HST:Hid (SetAt w h.sb st.pr st.v):=by
  have:=i.set
  rw [← i.ok.prI] at this
  exact this
 have HPR:=Lib.hid i.ok.prL.2
 have hfew:=fun q (hq:q ∈ D)=>(e3.all q hq).2.len
 have hl32:∀ q ∈ D,0≤vlenV q.2∧vlenV q.2≤32:=fun q hq=>by rw [hfew q hq];have:=i.few q.1;omega
 have hsh:∀ q ∈ D,∃ a n c,q.2 = .slice a n c:=fun q hq=>by obtain ⟨a,n,c,e,_⟩:=(e3.all q hq).2;exact ⟨a,n,c,e⟩
 have HSUM:Hid (((pidsK st.v st.pr).length:Int)+(E.length:Int)+sumV D=W):=hsum
 have HBD:=Lib.hid hbd;have HL:=Lib.hid hl32;have HSH:=Lib.hid hsh;have HE1:=Lib.hid e1;have HE2:=Lib.hid e2
 have hs1:IntKind.i64.wrap (((pidsK st.v st.pr).length:Int)+(E.length:Int))=((pidsK st.v st.pr).length:Int)+(E.length:Int):=by
  have h0:0≤sumV D:=by
   have:=(sum_bd (f:=fun x=>x) (l:=D.map fun q=>vlenV q.2) (m:=32) (fun x hx=>by obtain ⟨q,hq,rfl⟩:=List.mem_map.1 hx;exact hl32 q hq)).1
   unfold sumV
   rwa [List.map_id'] at this
  rw [IntKind.wrap_i64]
  have h1:((pidsK st.v st.pr).length:Int)+(E.length:Int)+sumV D=W:=hsum
  omega
 have HLE:Hid (∀ L X:List (Int × Value),D.Perm (L ++ X)→0≤sumV L∧0≤sumV X∧sumV L+sumV X=sumV D):=fun L X hp=>by
  have h1:∀ K:List (Int × Value),(∀ q ∈ K,q ∈ D)→0≤sumV K:=fun K hK=>by
   have:=(sum_bd (f:=fun x=>x) (l:=K.map fun q=>vlenV q.2) (m:=32) (fun x hx=>by obtain ⟨q,hq,rfl⟩:=List.mem_map.1 hx;exact hl32 q (hK q hq))).1
   unfold sumV
   rwa [List.map_id'] at this
  refine ⟨h1 L (fun q hq=>hp.mem_iff.2 (List.mem_append_left _ hq)),h1 X (fun q hq=>hp.mem_iff.2 (List.mem_append_right _ hq)),?_⟩
  rw [sumV_perm hp]
  unfold sumV
  simp
 clear hsum hbd hW hfew hl32 hsh e1 e2 e3 e4 i c4 c6 c7 c8
 go_enter Tryz.func76,Tryz.ntmps76
 go_wp2_with fail
 refine' reg_free (G:=Kept) (pickF [eqV _,eqV _,eqV _,eqV _,eqV _,eqV _,eqV _,eqV _,eqV _,eqV _,eqV _,eqV _]) [6,7,8,9,10,11,12,13,14,15,16,3] [[],[0],[1],[2],[3],[],[5],[6],[7],[8],[4,9],[10]] [0,1,2,3,4,5,6,7,8,9,10,11] (by kernel_rfl) Kept.refl Kept.trans (pick_stays ⟨eS _,eS _,eS _,eS _,eS _,eS _,eS _,eS _,eS _,eS _,eS _,eS _,trivial⟩) 31 rfl (by kernel_rfl) (by kernel_rfl) rfl rfl ?r1obl ?r1fin
 case r1obl=>
  refine ⟨?r1o0,?r1o1,?r1o2,?r1o3,?r1o4,?r1o5,?r1o6,?r1o7,?r1o8,?r1o9,?r1o10,?r1o11,trivial⟩
  case r1o0 | r1o5=>
   intro w1 hG;refine t1o (by rfl) ?_;intro K hK;go_simp;refine hK _ _ ⟨rfl,Kept.refl _,?_⟩;show _=_;simp only [gv1];rfl
  case r1o1 | r1o2=>
   intro w1 hG;intro va ha;change _=_ at ha;subst ha;refine t1o (by rfl) ?_;intro K hK;simp only [gv2];go_simp;refine hK _ _ ⟨rfl,Kept.refl _,?_⟩;show _=_;simp only [gv1];rfl
  case r1o3=>
   intro w1 hG;intro v2 h2;change _=_ at h2;subst h2;refine t1o (by rfl) ?_;intro K hK;simp only [gv2]
   have hGB:=kept_0 hG
   have hc:=cel hGB c9
   go_simp;refine hK _ _ ⟨rfl,Kept.refl _,?_⟩;show _=_;simp only [gv1];rfl
  case r1o4=>
   intro w1 hG;intro v3 h3;change _=_ at h3;subst h3;refine t1o (by rfl) ?_;intro K hK;simp only [gv2];go_simp
   have hcl:=len_any h.sb st.pr st.v w1 (HST.out.below (kept_0 hG)) HPR.out
   refine hcl.mono ?_
   rintro e w2 ⟨rfl,hb⟩
   refine hK _ _ ⟨rfl,hb,?_⟩
   show _=_;simp only [gv1];rfl
  case r1o6 | r1o7=>
   intro w1 hG;intro va ha;change _=_ at ha;subst ha;refine t1o (by rfl) ?_;intro K hK;simp only [gv2];go_simp;refine hK _ _ ⟨rfl,Kept.refl _,?_⟩;show _=_;simp only [gv1];rfl
  case r1o8=>
   intro w1 hG;intro v7 h7;change _=_ at h7;subst h7;refine t1o (by rfl) ?_;intro K hK;simp only [gv2]
   have hGB:=kept_0 hG
   have hc:=cel hGB c11
   go_simp;refine hK _ _ ⟨rfl,Kept.refl _,?_⟩;show _=_;simp only [gv1];rfl
  case r1o9=>
   intro w1 hG;intro v8 h8;change _=_ at h8;subst h8;refine t1o (by rfl) ?_;intro K hK;simp only [gv2]
   have hGB:=kept_0 hG
   have hln:=mg_lenrun (HE2.out.at (hGB.block _ HE2.out.lt))
   go_simp;refine hK _ _ ⟨rfl,Kept.refl _,?_⟩;show _=_;simp only [gv1];rfl
  case r1o10=>
   intro w1 hG;intro va ha;change _=_ at ha;subst ha;intro vb hb;change _=_ at hb;subst hb;refine t1o (by rfl) ?_;intro K hK;simp only [gv2];go_simp;refine hK _ _ ⟨rfl,Kept.refl _,?_⟩;show _=_;simp only [gv1];rfl
  case r1o11=>
   intro w1 hG;intro va ha;change _=_ at ha;subst ha;refine t1o (by rfl) ?_;intro K hK;simp only [gv2];go_simp;refine hK _ _ ⟨rfl,Kept.refl _,?_⟩;show _=_;simp only [gv1];rfl
 intro w1 hG;intro v0 h0;change _=_ at h0;subst h0;intro v1 h1;change _=_ at h1;subst h1;intro v2 h2;change _=_ at h2;subst h2;intro v3 h3;change _=_ at h3;subst h3;intro v4 h4;change _=_ at h4;subst h4;intro v5 h5;change _=_ at h5;subst h5;intro v6 h6;change _=_ at h6;subst h6;intro v7 h7;change _=_ at h7;subst h7;intro v8 h8;change _=_ at h8;subst h8;intro v9 h9
 change _=_ at h9;subst h9;intro v10 h10;change _=_ at h10;subst h10;intro v11 h11;change _=_ at h11;subst h11
 simp only [Given,gv2]
 have hGB:=kept_0 hG
 replace c10:=cel hGB c10;have HGB:=Lib.hid hGB;clear hG hGB c9 c11;clear hs1
 obtain ⟨C0,hC0⟩:∃ x,((pidsK st.v st.pr).length:Int)+(E.length:Int)=x:=⟨_,rfl⟩
 rw [hC0];rw [hC0] at HSUM
 obtain ⟨w0,hrun,hit,hg0,hs0⟩:=mg_range (HE1.out.at (HGB.out.block _ HE1.out.lt))
 have ST:Hid (WtR w h.lb D w1.heap.size w0 D []):=⟨hit,by simp,HGB.out.trans ⟨hg0.os,hg0.tape,hg0.output,hg0.size,fun k hk=>hg0.block k (Nat.lt_of_lt_of_le hk HGB.out.size) (by simp)⟩,HGB.out.size⟩
 have HC0:Hid (0≤C0):=by show 0≤C0;omega
 clear hit hg0 hs0 hC0;go_wp2_with fail
 go_loopw [3] (fun n wr=>∃ L X,n = .int .i64 (C0+sumV X)∧Hid (WtR w h.lb D w1.heap.size wr L X)) (fun _ wr=>wr.rangeLeft h.lb w1.heap.size)
 case atStart=>exact ⟨_,_,by simp [sumV],ST⟩
 case round=>
  clear ST hrun c10
  obtain ⟨L,X,rfl,HR⟩:=hrel
  rcases ig_next HR.out.it 0 with ⟨hl,hnx⟩ | ⟨q,L',wn,hpL,hpD,hnx,hit1,hg1,hs1,hen⟩
  ·subst hl
   have hX:C0+sumV X=W:=by
    have h1:=HLE.out [] X HR.out.all
    have h2:=HSUM.out
    have h3:sumV ([]:List (Int × Value))=0:=rfl
    omega
   rw [hX];have HB:=Lib.hid HR.out.bel;clear hX
   go_wp2
   go_ret
   exact ⟨rfl,HB.out⟩
  ·obtain ⟨p1,v⟩:=q
   obtain ⟨va,vn,vc,rfl⟩:∃ a n c,v = .slice a n c:=HSH.out _ hpD
   replace hnx:(Instr.next (.pointer (some ⟨w1.heap.size,0,none⟩)) false 0).run Tryz.prog wr = .ok (.tuple #[.bool true,.int .i64 p1,.slice va vn vc]) wn:=hnx
   replace hen:(Instr.entry (.pointer (some ⟨w1.heap.size,0,none⟩))).run Tryz.prog wn = .ok (.tuple #[.int .i64 p1,.slice va vn vc]) wn:=hen
   have hlen:L'.length < L.length:=by have:=hpL.length_eq;simp at this;omega
   have hDp:D.Perm (L' ++ (X ++ [(p1,.slice va vn vc)])):=by
    refine HR.out.all.trans ((hpL.append_right X).trans ?_)
    rw [← List.append_assoc]
    exact (List.perm_append_singleton _ _).symm
   have hsx:sumV (X ++ [(p1,Value.slice va vn vc)])=sumV X+(vn:Int):=by unfold sumV;rw [List.map_append,sum_append];simp [vlenV]
   have h1:=HLE.out _ _ hDp
   rw [hsx] at h1
   have hw:IntKind.i64.wrap (C0+sumV X+(vn:Int))=C0+sumV X+vn:=by
    rw [IntKind.wrap_i64]
    have h2:=HSUM.out
    have h3:=HBD.out
    have h4:=HC0.out
    have h5:=HLE.out _ _ HR.out.all
    omega
   have hr:=HR.out.r
   have HR2:Hid (WtR w h.lb D w1.heap.size wn L' (X ++ [(p1,.slice va vn vc)])):=⟨hit1,hDp,⟨hg1.os.trans HR.out.bel.os,hg1.tape.trans HR.out.bel.tape,hg1.output.trans HR.out.bel.output,Nat.le_trans HR.out.bel.size hg1.size,fun x hx=>(hg1.block x (Nat.lt_of_lt_of_le hx HR.out.bel.size) (fun e=>by injection e with e;omega)).trans (HR.out.bel.block x hx)⟩,hr⟩
   have HMS:=Lib.hid HR.out.it.left;have HSX:=Lib.hid hsx;have HLN:=Lib.hid hlen;clear hit1 hg1 hs1 hlen hDp hsx h1 hr hpL hpD
   go_wp2
   go_roundw
   case rel=>exact ⟨_,_,by rw [HSX.out];go_num,HR2⟩
   case measure=>rw [HR2.out.it.left,HMS.out];exact HLN.out
end
theorem RgV.grown {w w':World} {No:Nat→Prop} {v:Value} {L:List Rg} {b:Nat} (h:RgV w No v L) (hg:w.grownBy w' (some b)) (hb:No b):RgV w' No v L:=
 h.tn ((Tn.refl (fun k=>k=b) w).put hg (.inl rfl)) (fun k e=>by rw [e];exact hb)
theorem RgV.below {w w':World} {No:Nat→Prop} {v:Value} {L:List Rg} (h:RgV w No v L) (b:Below w.heap.size w w'):RgV w' No v L:=h.tn (Tn.of (Q:=fun _=>False) b) (fun _ h=>h.elim)
theorem has_put {n:Int} {v:BitVec 64} {k:Nat} (hk:(k:Int) < n) (hn:n≤64) (p:Int):hasB n (v ||| qbit k) p=(hasB n v p || decide (p=(k:Int))):=by
 unfold hasB
 by_cases h0:0≤p∧p < n
 ·have h1:p.toNat < 64:=by omega
  rw [put_get v k p.toNat h1,decide_eq_true h0.1,decide_eq_true h0.2]
  have:(p.toNat=k)↔(p=(k:Int)):=by omega
  simp [this]
 ·have:p ≠ (k:Int):=by omega
  have e:decide (p=(k:Int))=false:=decide_eq_false this
  rw [e]
  by_cases h1:0≤p
  ·have h2:¬ p < n:=fun h=>h0 ⟨h1,h⟩
   simp [h2]
  ·simp [h1]
theorem has_drop {n:Int} {v:BitVec 64} {k:Nat} (hn:n≤64) (p:Int):hasB n (v &&& ~~~ qbit k) p=(hasB n v p && !decide (p=(k:Int))):=by
 unfold hasB
 by_cases h0:0≤p∧p < n
 ·have h1:p.toNat < 64:=by omega
  rw [drop_get v k p.toNat h1,decide_eq_true h0.1,decide_eq_true h0.2]
  have:(p.toNat=k)↔(p=(k:Int)):=by omega
  simp [this]
 ·by_cases h1:0≤p
  ·have h2:¬ p < n:=fun h=>h0 ⟨h1,h⟩
   simp [h2]
  ·simp [h1]
/-- A number taken. -/
theorem ok_taken {st:Mc} (h:McOk st) {k:Nat} (hk:k < st.pr):McOk { st with v:=st.v ||| qbit k }:=by
 have hp:=h.prI
 have hc:=h.cf.procs
 refine ⟨h.cf,fun i hi=>?_,h.cn,h.wi,fun p hn=>h.gone p ?_,h.srt,h.pg⟩
 ·replace hi:st.pr≤i:=hi
  by_cases h64:i < 64
  ·rw [put_get st.v k i h64,h.low i hi]
   simp
   omega
  ·exact BitVec.getLsbD_of_ge _ _ (by omega)
 ·replace hn:hasB st.c.procs (st.v ||| qbit k) p=false:=hn
  rw [has_put (by omega) hc.2] at hn
  unfold Mc.has
  cases hh:hasB st.c.procs st.v p with
  | false=>rfl
  | true=>rw [hh] at hn;simp at hn
theorem McIn.taken {w w':World} {No:Nat→Prop} {h:McH} {st:Mc} (i:McIn w No h st) {k:Nat} (hk:k < st.pr) (hs:SetAt w' h.sb st.c.procs (st.v ||| qbit k)) (hg:w.grownBy w' (some h.sb)):McIn w' No h { st with v:=st.v ||| qbit k }:=by
 have t:Tn (fun k=>k=h.sb) w w':=(Tn.refl _ w).put hg (.inl rfl)
 have q0:∀ k,k=h.sb→No k:=fun k hk=>by rw [hk];exact i.no.1
 have hp:=i.ok.prI
 have hc:=i.ok.cf.procs
 obtain ⟨D,E,e1,e2,e3,e4⟩:=i.dat
 refine ⟨row_tn i.row t (fun e=>i.no.2.2.2 (q0 _ e)),hs,⟨D,E,e1.at (t.block _ e1.lt (fun e=>i.ne.1 e.symm)),e2.at (t.block _ e2.lt (fun e=>i.ne.2.1 e.symm)),⟨fun q hq=>⟨?_,(e3.all q hq).2.tn t q0⟩,e3.gone⟩,⟨fun q hq=>?_,e4.has⟩⟩,ok_taken i.ok hk,i.no,i.ne,fun k hk=>Nat.lt_of_lt_of_le (i.lt k hk) t.size⟩
 ·show hasB st.c.procs (st.v ||| qbit k) q.1=true
  rw [has_put (by omega) hc.2]
  have:=(e3.all q hq).1
  unfold Mc.has at this
  rw [this];rfl
 ·obtain ⟨c,hc,hv⟩:=e4.all q hq
  exact ⟨c,hc,hv.tn t q0⟩
/-- Regions laid. -/
theorem ok_laid {st:Mc} (h:McOk st) {p:Int} {L:List Rg} (hp:st.has p=true) (hcn:Cn st.c.regions.toNat L) (hwi:Within st.c.pages L) (hpg:∀ x ∈ st.ms p,findB L x.1=true):McOk { st with rs:=upd st.rs p L }:=by
 refine ⟨h.cf,h.low,fun q=>?_,fun q=>?_,fun q hq=>?_,h.srt,fun q x hx=>⟨(h.pg q x hx).1,?_⟩⟩
 ·show Cn _ (upd st.rs p L q)
  by_cases e:q=p
  ·rw [e,upd_same];exact hcn
  ·rw [upd_other _ _ e];exact h.cn q
 ·show Within _ (upd st.rs p L q)
  by_cases e:q=p
  ·rw [e,upd_same];exact hwi
  ·rw [upd_other _ _ e];exact h.wi q
 ·have hne:q ≠ p:=fun e=>by rw [e] at hq;exact absurd (hp.symm.trans hq) (by simp)
  exact ⟨(upd_other _ _ hne).trans (h.gone q hq).1,(h.gone q hq).2⟩
 ·show findB (upd st.rs p L q) x.1=true
  by_cases e:q=p
  ·rw [e,upd_same]
   rw [e] at hx
   exact hpg x hx
  ·rw [upd_other _ _ e]
   exact (h.pg q x hx).2
theorem rgs_laid {w w':World} {No:Nat→Prop} {st:Mc} {D:List (Int × Value)} (e3:RgsIn w No st D) {lb:Nat} (t:Tn (fun k=>k=lb) w w') (q0:No lb) {p:Int} {v:Value} {L:List Rg} (hp:st.has p=true) (hv:RgV w' No v L):RgsIn w' No { st with rs:=upd st.rs p L } (kput D p v):=by
 refine ⟨fun q hq=>?_,fun s hs=>?_⟩
 ·rcases kput_mem.1 hq with rfl | ⟨hq,hne⟩
  ·refine ⟨hp,?_⟩
   show RgV w' No v (upd st.rs p L p)
   rw [upd_same]
   exact hv
  ·refine ⟨(e3.all q hq).1,?_⟩
   show RgV w' No q.2 (upd st.rs p L q.1)
   rw [upd_other _ _ hne]
   exact (e3.all q hq).2.tn t (fun k hk=>by rw [hk];exact q0)
 ·have hne:s ≠ p:=fun e=>hs (p,v) (kput_mem.2 (.inl rfl)) e.symm
  show upd st.rs p L s=[]
  rw [upd_other _ _ hne]
  exact e3.gone s (fun q hq e=>hs q (kput_mem.2 (.inr ⟨hq,fun e2=>hne (by rw [← e,e2])⟩)) e)
theorem McIn.laid {w w':World} {No:Nat→Prop} {h:McH} {st:Mc} (i:McIn w No h st) {D:List (Int × Value)} {E:List ((Int × Int) × Value)} (e2:MapG MP w h.pb E) (e3:RgsIn w No st D) (e4:PgsIn w No st E)
  {p:Int} {L:List Rg} {v:Value} (hp:st.has p=true) (hcn:Cn st.c.regions.toNat L) (hwi:Within st.c.pages L) (hpg:∀ x ∈ st.ms p,findB L x.1=true) (hM:MapG MR w' h.lb (kput D p v)) (t:Tn (fun k=>k=h.lb) w w') (hv:RgV w' No v L) :
  McIn w' No h { st with rs:=upd st.rs p L }:=by
 have q0:∀ k,k=h.lb→No k:=fun k hk=>by rw [hk];exact i.no.2.1
 refine ⟨row_tn i.row t (fun e=>i.no.2.2.2 (q0 _ e)),row_tn i.set t i.ne.1,⟨kput D p v,E,hM,e2.at (t.block _ e2.lt (fun e=>i.ne.2.2 e.symm)),rgs_laid e3 t i.no.2.1 hp hv,⟨(e4.tn t q0).all,e4.has⟩⟩,ok_laid i.ok hp hcn hwi hpg,i.no,i.ne,fun k hk=>Nat.lt_of_lt_of_le (i.lt k hk) t.size⟩
theorem pgSet_last {L:List (Int × List Int)} {n:Int} {b:List Int} (h:SrtP (L ++ [(n,b)])):pgSet L n b=L ++ [(n,b)]:=by
 have hL:SrtP L:=(List.pairwise_append.1 h).1
 have hx:=(List.pairwise_append.1 h).2.2
 refine srt_ext (pgSet_srt hL) h (fun p=>?_)
 rw [pgSet_mem hL,List.mem_append,List.mem_singleton]
 constructor
 ·rintro (e | ⟨hp,_⟩)
  ·exact .inr e
  ·exact .inl hp
 ·rintro (hp | e)
  ·refine .inr ⟨hp,fun e=>?_⟩
   have:=hx p hp (n,b) (List.mem_singleton.2 rfl)
   rw [e] at this
   exact absurd this (by simp)
  ·exact .inl e
end Go.Proofs.YtoepnbfifjgpfaaGreat
