/- region: joined. -/
import Derived.Test.YtoepnbfifjgpfaaGreatMu8
import Derived.Shelf.SlSortCmp.NoneTotal
namespace Go.Proofs.YtoepnbfifjgpfaaGreat
open Go.RowKit Go.Proofs
theorem belowN {B:Nat} {a w:World} (h:Below B a w) (n:Nat):Below B a (w.drewN n):=⟨h.os,h.tape,h.output,h.size,h.block⟩
theorem grown_below {w w1 w2:World} {row:Option Nat} (h:w.grownBy w1 row) (b:Below w1.heap.size w1 w2):w.grownBy w2 row:=
 ⟨b.os.trans h.os,b.tape.trans h.tape,b.output.trans h.output,Nat.le_trans h.size b.size,fun k hk hne=>(b.block k (Nat.lt_of_lt_of_le hk h.size)).trans (h.block k hk hne)⟩
theorem joinedS_snoc (l:List Rg) (r:Rg):joinedS (l ++ [r])=joinStep (joinedS l) r:=by
 unfold joinedS
 rw [List.foldl_append];rfl
theorem joinStep_len (l:List Rg) (r:Rg):(joinStep l r).length≤l.length+1:=by
 unfold joinStep
 split
 ·split
  ·simp
  ·simp
 ·simp
theorem joinedS_len:∀ (l:List Rg) (k:Nat),(joinedS (l.take k)).length≤k
 | l,0=>by simp [joinedS]
 | l,k+1=>by
  rw [List.take_add_one]
  have h:=joinedS_len l k
  cases hk:l[k]? with
  | none=>simp;omega
  | some r=>
   rw [show (some r).toList=[r] from rfl,joinedS_snoc]
   have:=joinStep_len (joinedS (l.take k)) r
   omega
theorem OwnsS.row {α:Type} {m:α→List Value} {k:Nat} {e:TypeId} {w:World} {base n c:Nat} {a:Option Addr} {L:List α} (h:OwnsS m k e w base (.slice a n c) L) (hl:0 < L.length):∃ g cur,a=some ⟨g,0,none⟩∧base≤g∧w.heap[g]?=some (.cells cur e (0,0)):=by
 rcases h with ⟨rfl,_⟩ | h
 ·simp at hl
 ·rcases h.2 with ⟨_,h0⟩ | ⟨g,cap,cur,hv,hg,hh,_⟩
  ·omega
  ·injection hv with e1
   exact ⟨g,cur,e1,hg,hh⟩
/-- An element of an own row is written: one of its cells. -/
theorem OwnsS.put {w:World} {base g c:Nat} {L:List Rg} {i j:Nat} {x y:Rg} {u:Value} {n:Nat} (h:OwnsS Rg.cells 3 110 w base (.slice (some ⟨g,0,none⟩) n c) L) (hx:L[i]?=some x) (hj:j < 3) (hy:Rg.cells y=(Rg.cells x).set j u) :
  OwnsS Rg.cells 3 110 (w.setCell ⟨g,i * 3+j,none⟩ u) base (.slice (some ⟨g,0,none⟩) n c) (L.set i y):=by
 have hi:=(List.getElem?_eq_some_iff.1 hx).1
 rcases h with ⟨rfl,_⟩ | h
 ·cases hx
 ·rcases h.2 with ⟨hv,_⟩ | ⟨g',cap,cur,hv,hg,hh,hnc,hcm,hcs,ht⟩
  ·cases hv
  ·injection hv with e1 e2 e3
   injection e1 with e1
   injection e1 with e1
   subst e1 e2 e3
   refine .inr ⟨by rw [flat_len rgC],.inr ⟨g,c,cur.setIfInBounds (i * 3+j) u,by rw [List.length_set],hg,heap_setCell_same w g _ _ _ _ hh,by rw [List.length_set];exact hnc,hcm,by simp [hcs],?_⟩⟩
   rw [List.length_set,Array.toList_setIfInBounds,List.take_set,ht]
   apply List.ext_getElem?
   intro t
   have hfl:(L.flatMap Rg.cells).length=L.length * 3:=flat_len rgC L
   have hfs:((L.set i y).flatMap Rg.cells).length=L.length * 3:=by rw [flat_len rgC,List.length_set]
   by_cases htl:t < L.length * 3
   ·obtain ⟨q,s,hq,hs,e⟩:∃ q s,q < L.length∧s < 3∧t=q * 3+s:=⟨t / 3,t % 3,by omega,by omega,by omega⟩
    subst e
    have hq1:(L.set i y)[q]?=some (if i=q then y else L[q]):=by
     rw [List.getElem?_set]
     split
     ·rename_i e
      subst e
      simp
     ·simp [List.getElem?_eq_getElem hq]
    have h2:=flat_at rgC (L.set i y) q _ hq1 s _ (List.getElem?_eq_getElem (show s < (Rg.cells (if i=q then y else L[q])).length by rw [rgC.len];exact hs))
    rw [h2]
    by_cases hiq:i=q
    ·subst hiq
     have exi:L[i]=x:=by rw [List.getElem?_eq_getElem hi] at hx;exact Option.some.inj hx
     have e3:(Rg.cells y)[s]?=((Rg.cells x).set j u)[s]?:=by rw [hy]
     rw [List.getElem?_eq_getElem (show s < (Rg.cells y).length by rw [rgC.len];exact hs)] at e3
     simp only [if_true] at e3 ⊢
     rw [e3]
     by_cases hjs:j=s
     ·subst hjs
      rw [List.getElem?_set_self (by rw [hfl];omega),List.getElem?_set_self (by rw [rgC.len];exact hj)]
     ·rw [List.getElem?_set_ne (by omega),List.getElem?_set_ne (by omega)]
      have h3:=flat_at rgC L i x hx s _ (List.getElem?_eq_getElem (show s < (Rg.cells x).length by rw [rgC.len];exact hs))
      rw [h3,List.getElem?_eq_getElem]
    ·rw [List.getElem?_set_ne (by omega)]
     simp only [if_neg hiq]
     have h3:=flat_at rgC L q L[q] (List.getElem?_eq_getElem hq) s _ (List.getElem?_eq_getElem (show s < (Rg.cells L[q]).length by rw [rgC.len];exact hs))
     rw [h3]
   ·rw [List.getElem?_eq_none (by rw [List.length_set,hfl];omega),List.getElem?_eq_none (by rw [hfs];omega)]
theorem last_step {l:List Rg} {z r:Rg}:joinStep (l ++ [z]) r=if z.hi=r.lo∧z.p=r.p then l ++ [⟨z.lo,r.hi,z.p⟩] else (l ++ [z]) ++ [r]:=by
 unfold joinStep
 rw [List.getLast?_concat]
 simp only [List.dropLast_concat]
set_option maxRecDepth 100000 in
set_option linter.unusedSimpArgs false in
set_option linter.unusedVariables false in
set_option maxHeartbeats 1600000 in
theorem joined_loop (base:Nat) (v:Value) (L:List Rg) (w:World) (h:OwnsS Rg.cells 3 110 w base v L) (hl:∀ r ∈ L,0≤r.lo∧r.lo≤1099511627776) (hn:0 < L.length) (hn2:L.length≤5000)
  (hp:Parted L) (hnice:NiceL L) :
  Calls Tryz.prog 102 #[v] w fun e w'=>∃ v',e = .returned v'∧OwnsS Rg.cells 3 110 w' w.heap.size v' (joinedL L)∧w.grownBy w' (room v):=by
 have hsort:=sortR_any base v L w h hl hn (by omega)
 have HS:=Lib.hid hsort
 have HJ:Hid (∀ d:List Rg,d.Perm L→d.Pairwise (fun a c=>a.lo≤c.lo)→joinedS d=joinedL L):=fun d h1 h2=>joined_any (b:=0) h1 h2 hp hnice (fun r hr=>(hl r hr).1)
 clear hsort h hl hp hnice
 go_enter Tryz.func102,Tryz.ntmps102
 go_wp2_with fail
 refine HS.out.mono ?_
 rintro e w1 ⟨rfl,d,ho,hpm,hpw,hg⟩
 have hdl:d.length=L.length:=hpm.length_eq
 obtain ⟨n,hn0⟩:∃ n,d.length=n:=⟨_,rfl⟩
 obtain ⟨a,c,rfl⟩:=ho.shapeN n hn0
 have hn3:n≤5000:=by omega
 have O:=Lib.hid (ho.rd rgC)
 have HJ2:=Lib.hid (HJ.out d hpm hpw)
 have G:=Lib.hid hg;have HZ:=Lib.hid hg.size;clear ho hpm hpw hg hdl hn0 hn hn2 HS HJ
 go_wp2
 go_loopw [3,11] (fun x i wr=>∃ k:Nat,k≤n∧i = .int .i64 k∧Hid (OwnsS Rg.cells 3 110 wr w1.heap.size x (joinedS (d.take k))∧Below w1.heap.size w1 wr)) (fun _ i _=>n - (intOf i).toNat)
 case atStart=>exact ⟨0,by omega,rfl,OwnsS.nil _ _ _ _ _,Below.refl _ _⟩
 case round=>
  obtain ⟨k,hk,rfl,hh⟩:=hrel
  obtain ⟨h1,h2⟩:=hh.out
  have X:=Lib.hid h1;have B:=Lib.hid h2;clear hh h1 h2
  by_cases hkn:k < n
  ·have hl:=O.out.len
   obtain ⟨r,hr⟩:∃ r,d[k]?=some r:=⟨d[k],List.getElem?_eq_getElem (by omega)⟩
   obtain ⟨b,o,ha,c0,c1,c2⟩:=(O.out.below B.out).three k r hr
   subst ha
   have hd:joinedS (d.take (k+1))=joinStep (joinedS (d.take k)) r:=by
    rw [List.take_add_one,hr,show (some r).toList=[r] from rfl,joinedS_snoc]
   have hlen:=joinedS_len d k
   obtain ⟨J,hJ⟩:∃ J,joinedS (d.take k)=J:=⟨_,rfl⟩
   rw [hJ] at hd X hlen;have HD:=Lib.hid hd
   obtain ⟨q,hq⟩:∃ q,J.length=q:=⟨_,rfl⟩
   obtain ⟨ax,cx,rfl⟩:=X.out.shapeN q hq
   rw [hq] at hlen;have HQ:=Lib.hid hq
   have hal:=below_a wr (.cells #[.int .i64 r.lo,.int .i64 r.hi,.int .i64 r.p] 110)
   have hbox:=heap_alloc_new wr (.cells #[.int .i64 r.lo,.int .i64 r.hi,.int .i64 r.p] 110)
   have hx4:=X.out.below hal
   have hb4:=Below.call B.out hal
   obtain ⟨w4,hw4⟩:∃ w4,wr.alloc (.cells #[.int .i64 r.lo,.int .i64 r.hi,.int .i64 r.p] 110)=w4:=⟨_,rfl⟩
   obtain ⟨xb,hxb⟩:∃ xb,wr.heap.size=xb:=⟨_,rfl⟩
   rw [hw4] at hx4 hb4 hbox;rw [hxb] at hbox;have X4:=Lib.hid hx4;have B4:=Lib.hid hb4;have R4:=Lib.hid hbox
   obtain ⟨p0,p1,p2⟩:=cells3 hbox
   clear hr hl hd hJ hq hal hbox hx4 hb4
   obtain ⟨lo,hi,pp⟩:=r
   replace p0:w4.cell? ⟨xb,0,none⟩=some (.int .i64 lo):=p0
   replace p1:w4.cell? ⟨xb,1,none⟩=some (.int .i64 hi):=p1
   replace p2:w4.cell? ⟨xb,2,none⟩=some (.int .i64 pp):=p2
   by_cases hq0:q=0
   ·subst hq0
    have hJ0:J=[]:=List.eq_nil_of_length_eq_zero HQ.out
    subst hJ0
    have hd0:decide ((0:Int) < 0)=false:=rfl
    go_wp2_with (rw [hw4])
    go_quiet (fail)
    go_wp2_with (at_builtin;refine appS_one rgC Tryz.underlying77 rgI rfl (by decide) rfl (.tmp 45) (.tmp 47) rfl _ w1.heap.size _ _ rfl (OwnsS.below (X4.out.below (belowN (Below.refl _ _) _)) (below_a _ _)) _ 1 ⟨lo,hi,pp⟩ rfl (heap_alloc_new _ _) (by simp) (by have:=B4.out.size;simp;omega) ?_;intro v1 w5 ho5 hg5)
    go_roundw
    case rel=>exact ⟨k+1,by omega,by go_num,by rw [HD.out];exact ho5,own_step B4.out X4.out (Below.call (belowN (Below.refl _ _) _) (below_a _ _)) hg5⟩
    case measure=>simp [intOf] <;> omega
   ·obtain ⟨m,rfl⟩:∃ m,q=m+1:=⟨q - 1,by omega⟩
    obtain ⟨l,z,hlz⟩:∃ l z,J=l ++ [z]:=by
     rcases List.eq_nil_or_concat J with e | ⟨l,z,e⟩
     ·have:=HQ.out
      rw [e] at this
      simp at this
     ·exact ⟨l,z,by rw [e,List.concat_eq_append]⟩
    subst hlz
    have hlm:l.length=m:=by have:=HQ.out;simp at this;exact this
    have hzl:(l ++ [z])[m]?=some z:=by rw [← hlm];simp
    obtain ⟨g,cur,hax,hgb,hgr⟩:=X4.out.row (by simp)
    subst hax
    obtain ⟨g2,o2,hax,z0,z1,z2⟩:=(X4.out.rd rgC).three m z hzl
    injection hax with hax
    injection hax with hax1 hax2
    subst hax1 hax2
    rw [Nat.zero_add] at z0 z1 z2
    have hfz:∀ i,w4.frozen? ⟨g,i,none⟩=false:=fun i=>frozen_of_row w4 g i _ _ hgr
    have HLM:=Lib.hid hlm;have HZL:=Lib.hid hzl;have HGB:=Lib.hid hgb
    have HGR:=Lib.hid (Array.getElem?_eq_some_iff.1 hgr).1
    clear hlm hzl hgr hgb
    obtain ⟨zl,zh,zp⟩:=z
    replace z0:w4.cell? ⟨g,m * 3,none⟩=some (.int .i64 zl):=z0
    replace z1:w4.cell? ⟨g,m * 3+1,none⟩=some (.int .i64 zh):=z1
    replace z2:w4.cell? ⟨g,m * 3+2,none⟩=some (.int .i64 zp):=z2
    by_cases he1:zh=lo
    ·by_cases he2:zp=pp
     ·subst he1 he2
      have HE:Hid (joinedS (d.take (k+1))=l ++ [⟨zl,hi,zp⟩]):=by
       show _=_;rw [HD.out,last_step,if_pos ⟨rfl,rfl⟩]
      go_wp2_with (rw [hw4])
      go_quiet (fail)
      go_wp2
      go_roundw
      case rel=>
       refine ⟨k+1,by omega,by go_num,?_,Below.grown (Below.call B4.out (belowN (Below.refl w4.heap.size w4) _)) (cell_grown1 _ _ _ _) (Nat.le_trans B4.out.size (Nat.le_refl _)) (fun x e=>by injection e with e;have:=HGB.out;omega)⟩
       rw [HE.out]
       have:=OwnsS.put (X4.out.below (belowN (Below.refl w4.heap.size w4) nq)) HZL.out (show 1 < 3 by decide) (y:=⟨zl,hi,zp⟩) (u:=.int .i64 hi) rfl
       have hm:=HLM.out
       subst hm
       rw [show (l ++ [(⟨zl,zh,zp⟩:Rg)]).set l.length ⟨zl,hi,zp⟩=l ++ [⟨zl,hi,zp⟩] by simp] at this
       exact this
      case measure=>simp [intOf] <;> omega
     ·have HE:Hid (joinedS (d.take (k+1))=(l ++ [⟨zl,zh,zp⟩]) ++ [⟨lo,hi,pp⟩]):=by
       show _=_;rw [HD.out,last_step,if_neg (fun e=>he2 e.2)]
      subst he1
      have d2:(zp == pp)=false:=by simpa using he2
      go_wp2_with (rw [hw4])
      go_quiet (fail)
      go_wp2_with (at_builtin;refine appS_one rgC Tryz.underlying77 rgI rfl (by decide) rfl (.tmp 45) (.tmp 47) rfl _ w1.heap.size _ _ rfl (OwnsS.below (X4.out.below (belowN (Below.refl _ _) _)) (below_a _ _)) _ 1 ⟨zh,hi,pp⟩ rfl (heap_alloc_new _ _) (by have:=HLM.out;simp;omega) (by have:=B4.out.size;simp;omega) ?_;intro v1 w5 ho5 hg5)
      go_roundw
      case rel=>exact ⟨k+1,by omega,by go_num,by rw [HE.out];exact ho5,own_step B4.out X4.out (Below.call (belowN (Below.refl _ _) _) (below_a _ _)) hg5⟩
      case measure=>simp [intOf] <;> omega
    ·have HE:Hid (joinedS (d.take (k+1))=(l ++ [⟨zl,zh,zp⟩]) ++ [⟨lo,hi,pp⟩]):=by
      show _=_;rw [HD.out,last_step,if_neg (fun e=>he1 e.1)]
     have d1:(zh == lo)=false:=by simpa using he1
     go_wp2_with (rw [hw4])
     go_quiet (fail)
     go_wp2_with (at_builtin;refine appS_one rgC Tryz.underlying77 rgI rfl (by decide) rfl (.tmp 45) (.tmp 47) rfl _ w1.heap.size _ _ rfl (OwnsS.below (X4.out.below (belowN (Below.refl _ _) _)) (below_a _ _)) _ 1 ⟨lo,hi,pp⟩ rfl (heap_alloc_new _ _) (by have:=HLM.out;simp;omega) (by have:=B4.out.size;simp;omega) ?_;intro v1 w5 ho5 hg5)
     go_roundw
     case rel=>exact ⟨k+1,by omega,by go_num,by rw [HE.out];exact ho5,own_step B4.out X4.out (Below.call (belowN (Below.refl _ _) _) (below_a _ _)) hg5⟩
     case measure=>simp [intOf] <;> omega
  ·obtain rfl:k=n:=by omega
   have hl:=O.out.len
   have e:d.take k=d:=List.take_of_length_le (by omega)
   rw [e,HJ2.out] at X;clear hl e
   go_wp2
   go_ret
   exact ⟨_,rfl,X.out.mono HZ.out,grown_below G.out B.out⟩
end Go.Proofs.YtoepnbfifjgpfaaGreat
