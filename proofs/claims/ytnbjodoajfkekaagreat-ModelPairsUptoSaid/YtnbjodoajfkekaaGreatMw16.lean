/- Several machines in one memory, each in its own blocks. The document's regions compared; the pages that one of two has stored to (sameRegions, both). Plain: what the document's Same and Delta tell, by the pages of both. -/
import Derived.Test.YtnbjodoajfkekaaGreatMv0
import Derived.Test.YtnbjodoajfkekaaGreatMw15
import Derived.Test.YtnbjodoajfkekaaGreatMw8
import Derived.Test.YtnbjodoajfkekaaGreatMw12
import Derived.Test.YtnbjodoajfkekaaGreatMw13
import Derived.WalkKit
import Derived.ProofKit
import Derived.BigQuiet
import Derived.Deep.QuietTactic
import Derived.Lib.Hide
import Derived.RegionTactic
import Derived.Test.YtnbjodoajfkekaaGreatMw1
import Derived.Test.YtnbjodoajfkekaaGreatMw10
import Derived.Test.YtnbjodoajfkekaaGreatMw11
import Derived.Test.YtnbjodoajfkekaaGreatMv21
namespace Go.Proofs.YtnbjodoajfkekaaGreat
set_option maxRecDepth 100000
open Go.RowKit
set_option linter.unusedSimpArgs false
theorem RmIn.more2 {w w':World} {No No' Q:Nat→Prop} {h:RmH} {st:Mc} (i:RmIn w No h st) (t:Tn Q w w') (hq:∀ k,Q k→No k∧¬ h.own st k) (h1:∀ k,No k→No' k) (h2:∀ k,No' k→No k∨w.heap.size≤k) (h3:∀ k,No' k→k < w'.heap.size):RmIn w' No' h st:=by
 have q:∀ k,k < w.heap.size→No' k→No k:=fun k hk hn=>by
  rcases h2 k hn with h | h
  ·exact h
  ·omega
 have hm:h.m < w.heap.size:=(Array.getElem?_eq_some_iff.1 i.row).1
 obtain ⟨c,zs,hs⟩:=i.set
 have j:=i.tn t hq
 exact ⟨j.row,j.set,j.prow,fun p hp=>((i.pr p hp).reno h1 q).tn t (fun k hk=>⟨h1 k (hq k hk).1,fun ho=>(hq k hk).2 (.inr (.inr ⟨p,hp,ho⟩))⟩),i.ok,⟨h1 _ i.no.1,h1 _ i.no.2.1,fun hk=>i.no.2.2.1 (q _ hm hk),fun hk=>i.no.2.2.2 (q _ hs.lt.1 hk)⟩,i.ap,i.ne,h3⟩
/-- One of several that lie in one memory. -/
structure Pty where
 own:Nat→Prop
 In:World→(Nat→Prop)→Prop
 more:∀ {w w':World} {No No' Q:Nat→Prop},In w No→Tn Q w w'→(∀ k,Q k→No k∧¬ own k)→(∀ k,No k→No' k)→(∀ k,No' k→No k∨w.heap.size≤k)→(∀ k,No' k→k < w'.heap.size)→In w' No'
 no:∀ {w:World} {No:Nat→Prop},In w No→∀ k,own k→No k
def mcP (h:McH) (st:Mc):Pty:=⟨h.own,fun w No=>McIn w No h st,fun i t hq h1 h2 h3=>i.more t hq h1 h2 h3,fun i=>i.own_no⟩
def rmP (h:RmH) (st:Mc):Pty:=⟨h.own st,fun w No=>RmIn w No h st,fun i t hq h1 h2 h3=>i.more2 t hq h1 h2 h3,fun i=>i.own_no⟩
structure OpsR where
 a:Option Addr
 n:Nat
 L:List OpP
def OpsR.In (o:OpsR) (w:World) (No:Nat→Prop):Prop:=OpsIn w No o.a o.n o.L
structure Ptys (w0 w:World) (PS:List Pty) (O:List OpsR):Prop where
 ex:∃ No:Nat→Prop,(∀ (i:Nat) (P:Pty),PS[i]?=some P→P.In w No)∧(∀ o ∈ O,o.In w No)∧(∀ k,No k→w0.heap.size≤k)∧∀ k,No k→k < w.heap.size
 dj:∀ (i j:Nat) (P Q:Pty),i ≠ j→PS[i]?=some P→PS[j]?=some Q→∀ k,P.own k→¬ Q.own k
 bel:Below w0.heap.size w0 w
section
variable {w0 w w':World} {PS:List Pty} {O:List OpsR}
theorem Ptys.below (s:Ptys w0 w PS O) (b:Below w.heap.size w w'):Ptys w0 w' PS O:=by
 obtain ⟨No,h1,h2,h3,h4⟩:=s.ex
 exact ⟨⟨No,fun i P hP=>P.more (h1 i P hP) (Tn.of (Q:=fun _=>False) b) (fun _ h=>h.elim) (fun _ h=>h) (fun _ h=>.inl h) (fun k hk=>Nat.lt_of_lt_of_le (h4 k hk) b.size),fun o ho=>OpsIn.tn (h2 o ho) (Tn.of (Q:=fun _=>False) b) (fun _ h=>h.elim),h3,fun k hk=>Nat.lt_of_lt_of_le (h4 k hk) b.size⟩,s.dj,s.bel.trans (b.mono s.bel.size)⟩
/-- One of them goes on. -/
theorem Ptys.step (dj:∀ (i j:Nat) (P Q:Pty),i ≠ j→PS[i]?=some P→PS[j]?=some Q→∀ k,P.own k→¬ Q.own k) (bel:Below w0.heap.size w0 w) {No No':Nat→Prop} (h1:∀ (i:Nat) (P:Pty),PS[i]?=some P→P.In w No) (h2:∀ o ∈ O,o.In w No) (h3:∀ k,No k→w0.heap.size≤k) (h4:∀ k,No k→k < w.heap.size)
  (i:Nat) {P P':Pty} (hP:PS[i]?=some P) (hin:P'.In w' No') (t:Tn P.own w w') (hu:∀ k,No k→No' k) (hd:∀ k,No' k→No k∨w.heap.size≤k) (hl:∀ k,No' k→k < w'.heap.size) (ho:∀ k,P'.own k→P.own k∨w.heap.size≤k):Ptys w0 w' (PS.set i P') O:=by
 have hno:=P.no (h1 i P hP)
 have hi:=(List.getElem?_eq_some_iff.1 hP).1
 have hget:∀ (j:Nat) (Q:Pty),(PS.set i P')[j]?=some Q→(j=i∧Q=P')∨(j ≠ i∧PS[j]?=some Q):=fun j Q hQ=>by
  rw [List.getElem?_set] at hQ
  by_cases e:i=j
  ·subst e
   rw [if_pos rfl,if_pos hi] at hQ
   injection hQ with hQ
   exact .inl ⟨rfl,hQ.symm⟩
  ·rw [if_neg e] at hQ
   exact .inr ⟨fun e2=>e e2.symm,hQ⟩
 have lt:∀ (j:Nat) (Q:Pty),PS[j]?=some Q→∀ k,Q.own k→k < w.heap.size:=fun j Q hQ k hk=>h4 k (Q.no (h1 j Q hQ) k hk)
 refine ⟨⟨No',fun j Q hQ=>?_,fun o hO=>OpsIn.more (h2 o hO) t hno hd,fun k hk=>?_,hl⟩,fun j1 j2 Q1 Q2 hne q1 q2 k k1 k2=>?_,bel.trans (t.below (fun k hk hq=>by have:=h3 k (hno k hq);omega) bel.size)⟩
 ·rcases hget j Q hQ with ⟨_,rfl⟩ | ⟨hne,hQ⟩
  ·exact hin
  ·exact Q.more (h1 j Q hQ) t (fun k hk=>⟨hno k hk,fun h5=>dj j i Q P hne hQ hP k h5 hk⟩) hu hd hl
 ·rcases hd k hk with h | h
  ·exact h3 k h
  ·have:=bel.size;omega
 ·rcases hget j1 Q1 q1 with ⟨e1,rfl⟩ | ⟨e1,p1⟩ <;> rcases hget j2 Q2 q2 with ⟨e2,rfl⟩ | ⟨e2,p2⟩
  ·omega
  ·rcases ho k k1 with h | h
   ·exact dj i j2 P Q2 (fun e=>e2 e.symm) hP p2 k h k2
   ·have:=lt j2 Q2 p2 k k2;omega
  ·rcases ho k k2 with h | h
   ·exact dj j1 i Q1 P e1 p1 hP k k1 h
   ·have:=lt j1 Q1 p1 k k1;omega
  ·exact dj j1 j2 Q1 Q2 hne p1 p2 k k1 k2
/-- One more. -/
theorem Ptys.add (dj:∀ (i j:Nat) (P Q:Pty),i ≠ j→PS[i]?=some P→PS[j]?=some Q→∀ k,P.own k→¬ Q.own k) (bel:Below w0.heap.size w0 w) {No No':Nat→Prop} (h1:∀ (i:Nat) (P:Pty),PS[i]?=some P→P.In w No) (h2:∀ o ∈ O,o.In w No) (h3:∀ k,No k→w0.heap.size≤k) (h4:∀ k,No k→k < w.heap.size)
  {P':Pty} (hin:P'.In w' No') (b:Below w.heap.size w w') (hu:∀ k,No k→No' k) (hd:∀ k,No' k→No k∨w.heap.size≤k) (hl:∀ k,No' k→k < w'.heap.size) (ho:∀ k,P'.own k→w.heap.size≤k):Ptys w0 w' (PS ++ [P']) O:=by
 have t:Tn (fun _=>False) w w':=Tn.of b
 have hget:∀ (j:Nat) (Q:Pty),(PS ++ [P'])[j]?=some Q→(j=PS.length∧Q=P')∨(j < PS.length∧PS[j]?=some Q):=fun j Q hQ=>by
  rcases Nat.lt_or_ge j PS.length with h | h
  ·rw [List.getElem?_append_left h] at hQ;exact .inr ⟨h,hQ⟩
  ·rw [List.getElem?_append_right h] at hQ
   have hj:j - PS.length=0:=by have:=(List.getElem?_eq_some_iff.1 hQ).1;simp at this;omega
   rw [hj] at hQ
   injection hQ with hQ
   exact .inl ⟨by omega,hQ.symm⟩
 have lt:∀ (j:Nat) (Q:Pty),PS[j]?=some Q→∀ k,Q.own k→k < w.heap.size:=fun j Q hQ k hk=>h4 k (Q.no (h1 j Q hQ) k hk)
 refine ⟨⟨No',fun j Q hQ=>?_,fun o hO=>OpsIn.more (h2 o hO) t (fun _ h=>h.elim) hd,fun k hk=>?_,hl⟩,fun j1 j2 Q1 Q2 hne q1 q2 k k1 k2=>?_,bel.trans (b.mono bel.size)⟩
 ·rcases hget j Q hQ with ⟨_,rfl⟩ | ⟨_,hQ⟩
  ·exact hin
  ·exact Q.more (h1 j Q hQ) t (fun _ h=>h.elim) hu hd hl
 ·rcases hd k hk with h | h
  ·exact h3 k h
  ·have:=bel.size;omega
 ·rcases hget j1 Q1 q1 with ⟨e1,rfl⟩ | ⟨e1,p1⟩ <;> rcases hget j2 Q2 q2 with ⟨e2,rfl⟩ | ⟨e2,p2⟩
  ·omega
  ·have:=ho k k1;have:=lt j2 Q2 p2 k k2;omega
  ·have:=ho k k2;have:=lt j1 Q1 p1 k k1;omega
  ·exact dj j1 j2 Q1 Q2 hne p1 p2 k k1 k2
/-- A run of the program's machine. -/
theorem Ptys.run (s:Ptys w0 w PS O) (i:Nat) {h:McH} {st:Mc} (hP:PS[i]?=some (mcP h st)) {a:Option Addr} {n c:Nat} {L:List OpP} (hO:(⟨a,n,L⟩:OpsR) ∈ O) (hn:n≤1000) :
  Calls Tryz.prog 23 #[.pointer (some ⟨h.m,0,none⟩),.slice a n c] w fun e w'=>∃ v,e = .returned v∧Ptys w0 w' (PS.set i (mcP h (runM st L))) O:=by
 obtain ⟨No,h1,h2,h3,h4⟩:=s.ex
 have hops:OpsIn w No a n L:=h2 _ hO
 refine (run_any (h1 i _ hP) a n c L hops hn).mono ?_
 rintro e w' ⟨v,vs,rfl,hR⟩
 obtain ⟨NoX,g1,g2,g3,_⟩:=hR.mc
 rw [List.take_of_length_le (by rw [hops.len];exact Nat.le_refl _)] at g1
 exact ⟨v,rfl,Ptys.step s.dj s.bel h1 h2 h3 h4 i hP (P':=mcP h (runM st L)) g1 hR.tn g2 g3 g1.lt (fun k hk=>.inl hk)⟩
/-- An operation of the document's machine. -/
theorem Ptys.rdo (s:Ptys w0 w PS O) (i:Nat) {h:RmH} {st:Mc} (hP:PS[i]?=some (rmP h st)) {a:Option Addr} {n k:Nat} {L:List OpP} (hO:(⟨a,n,L⟩:OpsR) ∈ O) {A:OpP} (hA:L[k]?=some A) {ta:Option Addr} {tn tc:Nat} {b o:Nat} (hc:w.cell? ⟨b,o+k * 6+5,none⟩=some (.slice ta tn tc)) (ha:a=some ⟨b,o,none⟩) :
  Calls Tryz.prog 19 #[.pointer (some ⟨h.m,0,none⟩),.agg #[.int .i64 A.kind,.int .i64 A.pid,.int .i64 A.at_,.int .i64 A.n,.int .i64 A.prot,.slice ta tn tc]] w fun e w'=>∃ v,e = .returned v∧∃ h':RmH,h'.m=h.m∧Ptys w0 w' (PS.set i (rmP h' (stepM st A.o))) O:=by
 obtain ⟨No,h1,h2,h3,h4⟩:=s.ex
 have hops:OpsIn w No a n L:=h2 _ hO
 obtain ⟨b',o',e1,hop⟩:=hops.at_ k A hA
 rw [ha] at e1
 injection e1 with e1
 injection e1 with e1 e2
 subst e1 e2
 obtain ⟨ta',tn',tc',⟨_,_,_,_,_,y5,hr⟩,hx⟩:=hop.ex
 rw [hc] at y5
 injection y5 with y5
 injection y5 with y6 y7 y8
 subst y6 y7 y8
 refine (rdo_any (h1 i _ hP) A.o ta tn tc hop.wf.2.1 hop.wf.2.2.1 hop.wf.2.2.2.1 hr hx).mono ?_
 rintro e w' ⟨dv,pv,h',rfl,_,_,hi,ht,hm,ho⟩
 exact ⟨_,rfl,h',hm,Ptys.step s.dj s.bel h1 h2 h3 h4 i hP (P':=rmP h' (stepM st A.o)) hi ht (fun k hk=>.inl hk) (fun k hk=>hk.elim .inl (fun e=>(ho k e).imp ((rmP h st).no (h1 i _ hP) k) id)) hi.lt ho⟩
theorem Ptys.twinM (s:Ptys w0 w PS O) (i:Nat) {h:McH} {st:Mc} (hP:PS[i]?=some (mcP h st)) :
  Calls Tryz.prog 24 #[.pointer (some ⟨h.m,0,none⟩)] w fun e w'=>∃ h':McH,e = .returned (.pointer (some ⟨h'.m,0,none⟩))∧Ptys w0 w' (PS ++ [mcP h' st]) O:=by
 obtain ⟨No,h1,h2,h3,h4⟩:=s.ex
 refine (twin_any (h1 i _ hP)).mono ?_
 rintro e w' ⟨h',rfl,hi,ho,_,hb⟩
 exact ⟨h',rfl,Ptys.add s.dj s.bel h1 h2 h3 h4 (P':=mcP h' st) hi hb (fun k hk=>.inl hk) (fun k hk=>hk.imp id (ho k)) hi.lt ho⟩
theorem Ptys.twinR (s:Ptys w0 w PS O) (i:Nat) {h:RmH} {st:Mc} (hP:PS[i]?=some (rmP h st)) :
  Calls Tryz.prog 25 #[.pointer (some ⟨h.m,0,none⟩)] w fun e w'=>∃ h':RmH,e = .returned (.pointer (some ⟨h'.m,0,none⟩))∧Ptys w0 w' (PS ++ [rmP h' st]) O:=by
 obtain ⟨No,h1,h2,h3,h4⟩:=s.ex
 refine (rtwinM_any (h1 i _ hP)).mono ?_
 rintro e w' ⟨h',rfl,hi,ho,_,hb⟩
 exact ⟨h',rfl,Ptys.add s.dj s.bel h1 h2 h3 h4 (P':=rmP h' st) hi hb (fun k hk=>.inl hk) (fun k hk=>hk.imp id (ho k)) hi.lt ho⟩
theorem Ptys.mcOf (s:Ptys w0 w PS O) {i j:Nat} {h h2:McH} {st st2:Mc} (hP:PS[i]?=some (mcP h st)) (hQ:PS[j]?=some (mcP h2 st2)):∃ No,McIn w No h st∧McIn w No h2 st2:=by
 obtain ⟨No,h1,_⟩:=s.ex
 exact ⟨No,h1 i _ hP,h1 j _ hQ⟩
theorem Ptys.rmOf (s:Ptys w0 w PS O) {i j:Nat} {h h2:RmH} {st st2:Mc} (hP:PS[i]?=some (rmP h st)) (hQ:PS[j]?=some (rmP h2 st2)):∃ No,RmIn w No h st∧RmIn w No h2 st2:=by
 obtain ⟨No,h1,_⟩:=s.ex
 exact ⟨No,h1 i _ hP,h1 j _ hQ⟩
theorem Ptys.opAt (s:Ptys w0 w PS O) {a:Option Addr} {n k:Nat} {L:List OpP} (hO:(⟨a,n,L⟩:OpsR) ∈ O) {A:OpP} (hA:L[k]?=some A):∃ b o ta tn tc,a=some ⟨b,o,none⟩∧w.cell? ⟨b,o+k * 6,none⟩=some (.int .i64 A.kind)∧w.cell? ⟨b,o+k * 6+1,none⟩=some (.int .i64 A.pid)∧w.cell? ⟨b,o+k * 6+2,none⟩=some (.int .i64 A.at_)∧w.cell? ⟨b,o+k * 6+3,none⟩=some (.int .i64 A.n)∧w.cell? ⟨b,o+k * 6+4,none⟩=some (.int .i64 A.prot)∧w.cell? ⟨b,o+k * 6+5,none⟩=some (.slice ta tn tc):=by
 obtain ⟨No,_,h2,_⟩:=s.ex
 have hops:OpsIn w No a n L:=h2 _ hO
 obtain ⟨b,o,ta,tn,tc,ha,hop⟩:=hops.opC hA
 obtain ⟨y0,y1,y2,y3,y4,y5⟩:=hop.c
 exact ⟨b,o,ta,tn,tc,ha,y0,y1,y2,y3,y4,y5⟩
end
set_option maxHeartbeats 4000000 in
theorem rsameR_any (a:Option Addr) (n c:Nat) (l:List Rg) (a':Option Addr) (n' c':Nat) (l':List Rg) (w:World) (h:RdS Rg.cells 3 w a n c l) (h':RdS Rg.cells 3 w a' n' c' l') (hm:n≤1000000∧n'≤1000000) :
  Calls Tryz.prog 81 #[.slice a n c,.slice a' n' c'] w fun e w'=>e = .returned (.bool (decide (l=l')))∧Below w.heap.size w w':=by
 have H:=Lib.hid h;have H':=Lib.hid h'
 have HLN:Hid (l.length=n):=h.len
 have HLN':Hid (l'.length=n'):=h'.len
 obtain ⟨hm1,hm2⟩:=hm
 clear h h'
 by_cases hn:n=n'
 ·subst hn
  obtain ⟨D,hD⟩:∃ D:Bool,decide (l=l')=D:=⟨_,rfl⟩
  rw [hD];have HD:=Lib.hid hD;clear hD
  go_enter Tryz.func81,Tryz.ntmps81
  go_wp2_with fail
  go_loopw [5] (fun i wr=>∃ (k:Nat),k≤n∧i = .int .i64 k∧Hid (Below w.heap.size w wr)∧Hid (l.take k=l'.take k)) (fun i _=>n - (intOf i).toNat)
  case atStart=>exact ⟨0,by omega,rfl,Below.refl _ _,rfl⟩
  case round=>
   obtain ⟨k,hk,rfl,HB,HT⟩:=hrel
   by_cases hkn:k < n
   ·obtain ⟨x,HX⟩:∃ x,Hid (l[k]?=some x):=⟨l[k]'(by have:=HLN.out;omega),List.getElem?_eq_getElem (by have:=HLN.out;omega)⟩
    obtain ⟨y,HY⟩:∃ y,Hid (l'[k]?=some y):=⟨l'[k]'(by have:=HLN'.out;omega),List.getElem?_eq_getElem (by have:=HLN'.out;omega)⟩
    obtain ⟨g,o,rfl,c0,c1,c2⟩:=(H.out.below HB.out).three k x HX.out
    obtain ⟨g',o',rfl,d0,d1,d2⟩:=(H'.out.below HB.out).three k y HY.out
    obtain ⟨rlo,rhi,rp⟩:=x
    obtain ⟨slo,shi,sp⟩:=y
    replace c0:wr.cell? ⟨g,o+k * 3,none⟩=some (.int .i64 rlo):=c0
    replace c1:wr.cell? ⟨g,o+k * 3+1,none⟩=some (.int .i64 rhi):=c1
    replace c2:wr.cell? ⟨g,o+k * 3+2,none⟩=some (.int .i64 rp):=c2
    replace d0:wr.cell? ⟨g',o'+k * 3,none⟩=some (.int .i64 slo):=d0
    replace d1:wr.cell? ⟨g',o'+k * 3+1,none⟩=some (.int .i64 shi):=d1
    replace d2:wr.cell? ⟨g',o'+k * 3+2,none⟩=some (.int .i64 sp):=d2
    by_cases hxy:rlo=slo∧rhi=shi∧rp=sp
    ·obtain ⟨rfl,rfl,rfl⟩:=hxy
     have HT2:Hid (l.take (k+1)=l'.take (k+1)):=by
      show _=_;rw [List.take_add_one,List.take_add_one,HT.out,HX.out,HY.out]
     go_wp2_with fail;go_quiet (fail);go_wp2_with fail
     go_roundw
     case rel=>exact ⟨k+1,by omega,by go_num,⟨HB.out.os,HB.out.tape,HB.out.output,HB.out.size,HB.out.block⟩,HT2⟩
     case measure=>simp [intOf] <;> omega
    ·have HF:Hid (D=false):=by
      show _=_;rw [← HD.out]
      refine decide_eq_false (fun e=>hxy ?_)
      have h1:=HX.out
      rw [e,HY.out] at h1
      injection h1 with h1
      injection h1 with e1 e2 e3
      exact ⟨e1.symm,e2.symm,e3.symm⟩
     by_cases e1:rlo=slo
     ·subst e1
      by_cases e2:rhi=shi
      ·subst e2
       have q3:(rp == sp)=false:=by simpa using fun e=>hxy ⟨rfl,rfl,e⟩
       clear hxy;go_wp2_with fail;go_quiet (fail);go_wp2_with fail
       go_ret
       rw [HF.out]
       exact ⟨rfl,⟨HB.out.os,HB.out.tape,HB.out.output,HB.out.size,HB.out.block⟩⟩
      ·have q2:(rhi == shi)=false:=by simpa using e2
       clear hxy e2;go_wp2_with fail;go_quiet (fail);go_wp2_with fail
       go_ret
       rw [HF.out]
       exact ⟨rfl,⟨HB.out.os,HB.out.tape,HB.out.output,HB.out.size,HB.out.block⟩⟩
     ·have q1:(rlo == slo)=false:=by simpa using e1
      clear hxy e1;go_wp2_with fail;go_quiet (fail);go_wp2_with fail
      go_ret
      rw [HF.out]
      exact ⟨rfl,⟨HB.out.os,HB.out.tape,HB.out.output,HB.out.size,HB.out.block⟩⟩
   ·obtain rfl:k=n:=by omega
    have HF:Hid (D=true):=by
     show _=_;rw [← HD.out]
     refine decide_eq_true ?_
     have h1:=HT.out
     rwa [List.take_of_length_le (by rw [HLN.out];omega),List.take_of_length_le (by rw [HLN'.out];omega)] at h1
    go_wp2_with fail
    go_ret
    rw [HF.out]
    exact ⟨rfl,HB.out⟩
 ·have hD:decide (l=l')=false:=decide_eq_false (fun e=>hn (by rw [← HLN.out,← HLN'.out,e]))
  have hn2:(n == n')=false:=by simpa using hn
  have hn3:((n:Int) == (n':Int))=false:=by simp;omega
  have hn4:((n:Int) != (n':Int))=true:=by simp;omega
  rw [hD];clear hD hn
  go_enter Tryz.func81,Tryz.ntmps81
  go_wp2_with fail
  go_ret
  exact ⟨rfl,Below.refl _ _⟩
/-- The pages that one of two has stored to, rising. -/
def bothL:List (Int × List Int)→List (Int × List Int)→List Int
 | [],M=>M.map Prod.fst
 | x :: L,[]=>(x :: L).map Prod.fst
 | x :: L,y :: M=>if x.1 < y.1 then x.1 :: bothL L (y :: M) else if y.1 < x.1 then y.1 :: bothL (x :: L) M else x.1 :: bothL L M
termination_by L M=>L.length+M.length
theorem bothL_nil (L:List (Int × List Int)):bothL L []=L.map Prod.fst:=by cases L <;> simp [bothL]
theorem drop_one {α:Type} {L:List α} {k:Nat} {x:α} (h:L[k]?=some x):L.drop k=x :: L.drop (k+1):=by
 obtain ⟨hk,rfl⟩:=List.getElem?_eq_some_iff.1 h
 rw [List.drop_eq_getElem_cons hk]
theorem bothL_len:∀ (L M:List (Int × List Int)),(bothL L M).length≤L.length+M.length
 | [],M=>by simp [bothL]
 | x :: L,[]=>by simp [bothL]
 | x :: L,y :: M=>by
  rw [bothL]
  split
  ·have:=bothL_len L (y :: M);simp only [List.length_cons] at *;omega
  ·split
   ·have:=bothL_len (x :: L) M;simp only [List.length_cons] at *;omega
   ·have:=bothL_len L M;simp only [List.length_cons] at *;omega
termination_by L M=>L.length+M.length
set_option maxHeartbeats 4000000 in
theorem both_any {w:World} {No No2:Nat→Prop} {H H2:PrH} {R R2:List Rg} {L M:List (Int × List Int)} (p:PrIn w No H R L) (q:PrIn w No2 H2 R2 M) (hl:L.length≤100000) (hm:M.length≤100000) (hL:∀ x ∈ L,0≤x.1∧x.1≤65536) (hM:∀ x ∈ M,0≤x.1∧x.1≤65536) :
  Calls Tryz.prog 82 #[.pointer (some ⟨H.b,0,none⟩),.pointer (some ⟨H2.b,0,none⟩)] w (GivesPids (bothL L M) w):=by
 obtain ⟨_,_,_,la,lc,_,z1,_,h3⟩:=p.cell
 obtain ⟨_,_,_,ka,kc,_,z2,_,g3⟩:=q.cell
 obtain ⟨NL,hNL⟩:∃ y,L.length=y:=⟨_,rfl⟩
 obtain ⟨NM,hNM⟩:∃ y,M.length=y:=⟨_,rfl⟩
 rw [hNL] at z1 h3 hl;rw [hNM] at z2 g3 hm;have HNL:=Lib.hid hNL;have HNM:=Lib.hid hNM;have HZ1:=Lib.hid z1;have HZ2:=Lib.hid z2;have HL3:=Lib.hid h3;have HG3:=Lib.hid g3;have HL:=Lib.hid hL;have HM:=Lib.hid hM
 have hcap:=h3.1.cap
 have gcap:=g3.1.cap
 obtain ⟨BL,hBL⟩:∃ y,bothL L M=y:=⟨_,rfl⟩
 rw [hBL];have HBL:=Lib.hid hBL;clear p q hNL hNM h3 g3 hL hM hBL
 go_enter Tryz.func82,Tryz.ntmps82
 go_wp2_with fail
 go_loopw [5,6,7] (fun v i k wr=>∃ (I K:Nat),I≤NL∧K≤NM∧i = .int .i64 I∧k = .int .i64 K∧Hid (∃ out,Owns .i64 3 wr w.heap.size v out∧out ++ bothL (L.drop I) (M.drop K)=BL∧out.length≤I+K∧Below w.heap.size w wr)) (fun _ i k _=>NL+NM - (intOf i).toNat - (intOf k).toNat)
 case atStart=>exact ⟨0,0,by omega,by omega,rfl,rfl,[],Owns.nil _ _ _ _,HBL.out,by simp,Below.refl _ _⟩
 case round=>
  obtain ⟨I,K,hI,hK,rfl,rfl,hh⟩:=hrel
  obtain ⟨out,ow,hout,hol,hbr⟩:=hh.out
  obtain ⟨n,hn⟩:∃ y,out.length=y:=⟨_,rfl⟩
  obtain ⟨va,vc,rfl⟩:=ow.shapeN n hn
  rw [hn] at hol;have OW:=Lib.hid ow;have HOUT:=Lib.hid hout;have HN:=Lib.hid hn;have BR:=Lib.hid hbr
  have z1r:=cel hbr HZ1.out
  have z2r:=cel hbr HZ2.out
  clear hh ow hout hn hbr z1 z2
  by_cases hIN:I < NL
  ·obtain ⟨x,hx⟩:∃ x,L[I]?=some x:=⟨_,List.getElem?_eq_getElem (by rw [HNL.out];exact hIN)⟩
   have hxb:=HL.out x (List.mem_of_getElem? hx)
   obtain ⟨bb,oo,hla,q0,_⟩:=pge_at HL3.out hx
   subst hla
   obtain ⟨N,B⟩:=x
   have HDX:=Lib.hid (drop_one hx)
   have q0r:wr.cell? ⟨bb,oo+I * 2,none⟩=some (.int .i64 N):=cel BR.out q0
   replace hxb:0≤N∧N≤65536:=hxb
   have hN0:=hxb.1
   have hN1:=hxb.2
   have HWN:Hid ((Lit.int .i64 N).wf=true):=WalkArith.wf_i64 ⟨by omega,by omega⟩
   have hIi:(I:Int) < (NL:Int):=by omega
   have dI:decide ((I:Int) < (NL:Int))=true:=decide_eq_true hIi
   have bI:((I:Int) == (NL:Int))=false:=by simp;omega
   clear hx hxb q0
   by_cases hKN:K < NM
   ·obtain ⟨y,hy⟩:∃ y,M[K]?=some y:=⟨_,List.getElem?_eq_getElem (by rw [HNM.out];exact hKN)⟩
    have hyb:=HM.out y (List.mem_of_getElem? hy)
    obtain ⟨b2,o2,hka,p0,_⟩:=pge_at HG3.out hy
    subst hka
    obtain ⟨N2,B2⟩:=y
    have HDY:=Lib.hid (drop_one hy)
    have p0r:wr.cell? ⟨b2,o2+K * 2,none⟩=some (.int .i64 N2):=cel BR.out p0
    replace hyb:0≤N2∧N2≤65536:=hyb
    have hM0:=hyb.1
    have hM1:=hyb.2
    have HWM:Hid ((Lit.int .i64 N2).wf=true):=WalkArith.wf_i64 ⟨by omega,by omega⟩
    have hKi:(K:Int) < (NM:Int):=by omega
    have dK:decide ((K:Int) < (NM:Int))=true:=decide_eq_true hKi
    have bK:((K:Int) == (NM:Int))=false:=by simp;omega
    clear hy hyb p0
    by_cases e1:N < N2
    ·have d1:decide (N < N2)=true:=decide_eq_true e1
     have E1:=Lib.hid e1;go_wp2_with fail;go_quiet (fail)
     have hbq0:=belowN (Below.refl wr.heap.size wr) nq
     replace z1r:=cel hbq0 z1r;replace z2r:=cel hbq0 z2r;replace q0r:=cel hbq0 q0r;replace p0r:=cel hbq0 p0r
     obtain ⟨wq0,hwq0⟩:∃ y,wr.drewN nq=y:=⟨_,rfl⟩
     rw [hwq0] at hbq0 z1r z2r q0r p0r ⊢;clear hwq0
     have OWq:=Lib.hid (OW.out.below hbq0)
     have BQ:=Lib.hid (Below.call BR.out hbq0)
     clear hbq0
     go_wp2_with (at_builtin;refine app_one i64T i64I (by decide) rfl (.tmp 75) (.tmp 84) rfl _ w.heap.size (.slice va n vc) out rfl OWq.out N rfl HWN.out (by rw [HN.out];omega) BQ.out.size ?_;intro v1 w6 ho1 hg1)
     have hb6:=BQ.out.trans (hg1.below BQ.out.size (fun y e=>(OWq.out.at_base y e).1))
     go_roundw
     case rel=>exact ⟨I+1,K,by omega,by omega,by go_num,by go_num,_,ho1,by rw [← HOUT.out];rw [HDX.out,HDY.out,bothL,if_pos E1.out,List.append_assoc];rfl,by rw [List.length_append,HN.out];simp;omega,hb6⟩
     case measure=>simp [intOf] <;> omega
    ·have d1:decide (N < N2)=false:=decide_eq_false e1
     have E1:=Lib.hid e1
     by_cases e2:N2 < N
     ·have d2:decide (N2 < N)=true:=decide_eq_true e2
      have E2:=Lib.hid e2;go_wp2_with fail;go_quiet (fail)
      have hbq0:=belowN (Below.refl wr.heap.size wr) nq
      replace z1r:=cel hbq0 z1r;replace z2r:=cel hbq0 z2r;replace q0r:=cel hbq0 q0r;replace p0r:=cel hbq0 p0r
      obtain ⟨wq0,hwq0⟩:∃ y,wr.drewN nq=y:=⟨_,rfl⟩
      rw [hwq0] at hbq0 z1r z2r q0r p0r ⊢;clear hwq0;go_wp2_with fail;go_quiet (fail)
      have hbq1:=belowN (Below.refl wq0.heap.size wq0) nq
      replace z1r:=cel hbq1 z1r;replace z2r:=cel hbq1 z2r;replace q0r:=cel hbq1 q0r;replace p0r:=cel hbq1 p0r
      obtain ⟨wq1,hwq1⟩:∃ y,wq0.drewN nq=y:=⟨_,rfl⟩
      rw [hwq1] at hbq1 z1r z2r q0r p0r ⊢;clear hwq1
      have OWq:=Lib.hid (OW.out.below (hbq0.trans (hbq1.mono hbq0.size)))
      have BQ:=Lib.hid (Below.call BR.out (hbq0.trans (hbq1.mono hbq0.size)))
      clear hbq0 hbq1
      go_wp2_with (at_builtin;refine app_one i64T i64I (by decide) rfl (.tmp 115) (.tmp 124) rfl _ w.heap.size (.slice va n vc) out rfl OWq.out N2 rfl HWM.out (by rw [HN.out];omega) BQ.out.size ?_;intro v1 w6 ho1 hg1)
      have hb6:=BQ.out.trans (hg1.below BQ.out.size (fun y e=>(OWq.out.at_base y e).1))
      go_roundw
      case rel=>exact ⟨I,K+1,by omega,by omega,by go_num,by go_num,_,ho1,by rw [← HOUT.out];rw [HDX.out,HDY.out,bothL,if_neg (Int.not_lt.2 E1.out),if_pos E2.out,List.append_assoc];rfl,by rw [List.length_append,HN.out];simp;omega,hb6⟩
      case measure=>simp [intOf] <;> omega
     ·have d2:decide (N2 < N)=false:=decide_eq_false e2
      have E2:=Lib.hid e2;go_wp2_with fail;go_quiet (fail)
      have hbq0:=belowN (Below.refl wr.heap.size wr) nq
      replace z1r:=cel hbq0 z1r;replace z2r:=cel hbq0 z2r;replace q0r:=cel hbq0 q0r;replace p0r:=cel hbq0 p0r
      obtain ⟨wq0,hwq0⟩:∃ y,wr.drewN nq=y:=⟨_,rfl⟩
      rw [hwq0] at hbq0 z1r z2r q0r p0r ⊢;clear hwq0;go_wp2_with fail;go_quiet (fail)
      have hbq1:=belowN (Below.refl wq0.heap.size wq0) nq
      replace z1r:=cel hbq1 z1r;replace z2r:=cel hbq1 z2r;replace q0r:=cel hbq1 q0r;replace p0r:=cel hbq1 p0r
      obtain ⟨wq1,hwq1⟩:∃ y,wq0.drewN nq=y:=⟨_,rfl⟩
      rw [hwq1] at hbq1 z1r z2r q0r p0r ⊢;clear hwq1
      have OWq:=Lib.hid (OW.out.below (hbq0.trans (hbq1.mono hbq0.size)))
      have BQ:=Lib.hid (Below.call BR.out (hbq0.trans (hbq1.mono hbq0.size)))
      clear hbq0 hbq1
      go_wp2_with (at_builtin;refine app_one i64T i64I (by decide) rfl (.tmp 24) (.tmp 33) rfl _ w.heap.size (.slice va n vc) out rfl OWq.out N rfl HWN.out (by rw [HN.out];omega) BQ.out.size ?_;intro v1 w6 ho1 hg1)
      have hb6:=BQ.out.trans (hg1.below BQ.out.size (fun y e=>(OWq.out.at_base y e).1))
      go_roundw
      case rel=>exact ⟨I+1,K+1,by omega,by omega,by go_num,by go_num,_,ho1,by rw [← HOUT.out];rw [HDX.out,HDY.out,bothL,if_neg (Int.not_lt.2 E1.out),if_neg (Int.not_lt.2 E2.out),List.append_assoc];rfl,by rw [List.length_append,HN.out];simp;omega,hb6⟩
      case measure=>simp [intOf] <;> omega
   ·obtain rfl:K=NM:=by omega
    have hdr:M.drop K=[]:=List.drop_eq_nil_of_le (by rw [HNM.out];omega)
    have HDR:=Lib.hid hdr;clear hdr;go_wp2_with fail;go_quiet (fail)
    have hbq0:=belowN (Below.refl wr.heap.size wr) nq
    replace z1r:=cel hbq0 z1r;replace z2r:=cel hbq0 z2r;replace q0r:=cel hbq0 q0r
    obtain ⟨wq0,hwq0⟩:∃ y,wr.drewN nq=y:=⟨_,rfl⟩
    rw [hwq0] at hbq0 z1r z2r q0r ⊢;clear hwq0
    have OWq:=Lib.hid (OW.out.below hbq0)
    have BQ:=Lib.hid (Below.call BR.out hbq0)
    clear hbq0
    go_wp2_with (at_builtin;refine app_one i64T i64I (by decide) rfl (.tmp 75) (.tmp 84) rfl _ w.heap.size (.slice va n vc) out rfl OWq.out N rfl HWN.out (by rw [HN.out];omega) BQ.out.size ?_;intro v1 w6 ho1 hg1)
    have hb6:=BQ.out.trans (hg1.below BQ.out.size (fun y e=>(OWq.out.at_base y e).1))
    go_roundw
    case rel=>exact ⟨I+1,K,by omega,by omega,by go_num,by go_num,_,ho1,by rw [← HOUT.out];rw [HDX.out,HDR.out,bothL_nil,bothL_nil,List.append_assoc];rfl,by rw [List.length_append,HN.out];simp;omega,hb6⟩
    case measure=>simp [intOf] <;> omega
  ·obtain rfl:I=NL:=by omega
   have hdr:L.drop I=[]:=List.drop_eq_nil_of_le (by rw [HNL.out];omega)
   have HDR:=Lib.hid hdr
   have dI:decide ((I:Int) < (I:Int))=false:=decide_eq_false (by omega)
   clear hdr
   by_cases hKN:K < NM
   ·obtain ⟨y,hy⟩:∃ y,M[K]?=some y:=⟨_,List.getElem?_eq_getElem (by rw [HNM.out];exact hKN)⟩
    have hyb:=HM.out y (List.mem_of_getElem? hy)
    obtain ⟨b2,o2,hka,p0,_⟩:=pge_at HG3.out hy
    subst hka
    obtain ⟨N2,B2⟩:=y
    have HDY:=Lib.hid (drop_one hy)
    have p0r:wr.cell? ⟨b2,o2+K * 2,none⟩=some (.int .i64 N2):=cel BR.out p0
    replace hyb:0≤N2∧N2≤65536:=hyb
    have hM0:=hyb.1
    have hM1:=hyb.2
    have HWM:Hid ((Lit.int .i64 N2).wf=true):=WalkArith.wf_i64 ⟨by omega,by omega⟩
    have hKi:(K:Int) < (NM:Int):=by omega
    have dK:decide ((K:Int) < (NM:Int))=true:=decide_eq_true hKi
    have bK:((K:Int) == (NM:Int))=false:=by simp;omega
    clear hy hyb p0;go_wp2_with fail;go_quiet (fail)
    have hbq0:=belowN (Below.refl wr.heap.size wr) nq
    replace z1r:=cel hbq0 z1r;replace z2r:=cel hbq0 z2r;replace p0r:=cel hbq0 p0r
    obtain ⟨wq0,hwq0⟩:∃ y,wr.drewN nq=y:=⟨_,rfl⟩
    rw [hwq0] at hbq0 z1r z2r p0r ⊢;clear hwq0;go_wp2_with fail;go_quiet (fail)
    have hbq1:=belowN (Below.refl wq0.heap.size wq0) nq
    replace z1r:=cel hbq1 z1r;replace z2r:=cel hbq1 z2r;replace p0r:=cel hbq1 p0r
    obtain ⟨wq1,hwq1⟩:∃ y,wq0.drewN nq=y:=⟨_,rfl⟩
    rw [hwq1] at hbq1 z1r z2r p0r ⊢;clear hwq1
    have OWq:=Lib.hid (OW.out.below (hbq0.trans (hbq1.mono hbq0.size)))
    have BQ:=Lib.hid (Below.call BR.out (hbq0.trans (hbq1.mono hbq0.size)))
    clear hbq0 hbq1
    go_wp2_with (at_builtin;refine app_one i64T i64I (by decide) rfl (.tmp 115) (.tmp 124) rfl _ w.heap.size (.slice va n vc) out rfl OWq.out N2 rfl HWM.out (by rw [HN.out];omega) BQ.out.size ?_;intro v1 w6 ho1 hg1)
    have hb6:=BQ.out.trans (hg1.below BQ.out.size (fun y e=>(OWq.out.at_base y e).1))
    go_roundw
    case rel=>exact ⟨I,K+1,by omega,by omega,by go_num,by go_num,_,ho1,by rw [← HOUT.out];rw [HDR.out,HDY.out,bothL,bothL,List.append_assoc];rfl,by rw [List.length_append,HN.out];simp;omega,hb6⟩
    case measure=>simp [intOf] <;> omega
   ·obtain rfl:K=NM:=by omega
    have hdr:M.drop K=[]:=List.drop_eq_nil_of_le (by rw [HNM.out];omega)
    have hfin:=HOUT.out
    rw [HDR.out,hdr,bothL,List.map_nil,List.append_nil] at hfin;have HFIN:=Lib.hid hfin;clear hdr hfin;go_wp2_with fail
    go_ret
    rw [← HFIN.out]
    exact ⟨_,rfl,OW.out,BR.out⟩
theorem bothL_mem (n:Int):∀ (L M:List (Int × List Int)),n ∈ bothL L M↔n ∈ L.map Prod.fst∨n ∈ M.map Prod.fst
 | [],M=>by simp [bothL]
 | x :: L,[]=>by simp [bothL]
 | x :: L,y :: M=>by
  rw [bothL]
  split
  ·rw [List.mem_cons,bothL_mem n L (y :: M),List.map_cons (a:=x),List.mem_cons,or_assoc]
  ·split
   ·rw [List.mem_cons,bothL_mem n (x :: L) M,List.map_cons (a:=y),List.mem_cons,or_left_comm]
   ·rename_i e1 e2
    have he:y.1=x.1:=by omega
    rw [List.mem_cons,bothL_mem n L M,List.map_cons,List.map_cons,List.mem_cons,List.mem_cons,he]
    constructor
    ·rintro (h | h | h)
     ·exact .inl (.inl h)
     ·exact .inl (.inr h)
     ·exact .inr (.inr h)
    ·rintro ((h | h) | (h | h))
     ·exact .inl h
     ·exact .inr (.inl h)
     ·exact .inl h
     ·exact .inr (.inr h)
termination_by L M=>L.length+M.length
theorem srt_head {x:Int × List Int} {L:List (Int × List Int)} (h:SrtP (x :: L)):∀ n ∈ L.map Prod.fst,x.1 < n:=fun n hn=>by
 obtain ⟨y,hy,rfl⟩:=List.mem_map.1 hn
 exact (List.pairwise_cons.1 h).1 y hy
theorem bothL_srt:∀ (L M:List (Int × List Int)),SrtP L→SrtP M→(bothL L M).Pairwise (· < ·)
 | [],M,_,hM=>by rw [bothL,List.pairwise_map];exact hM
 | x :: L,[],hL,_=>by rw [bothL,List.pairwise_map];exact hL
 | x :: L,y :: M,hL,hM=>by
  have hL2:SrtP L:=(List.pairwise_cons.1 hL).2
  have hM2:SrtP M:=(List.pairwise_cons.1 hM).2
  rw [bothL]
  split
  ·rename_i e
   refine List.pairwise_cons.2 ⟨fun n hn=>?_,bothL_srt L (y :: M) hL2 hM⟩
   rcases (bothL_mem n L (y :: M)).1 hn with h | h
   ·exact srt_head hL n h
   ·rw [List.map_cons,List.mem_cons] at h
    rcases h with h | h
    ·omega
    ·have:=srt_head hM n h;omega
  ·split
   ·rename_i e1 e
    refine List.pairwise_cons.2 ⟨fun n hn=>?_,bothL_srt (x :: L) M hL hM2⟩
    rcases (bothL_mem n (x :: L) M).1 hn with h | h
    ·rw [List.map_cons,List.mem_cons] at h
     rcases h with h | h
     ·omega
     ·have:=srt_head hL n h;omega
    ·exact srt_head hM n h
   ·rename_i e1 e2
    refine List.pairwise_cons.2 ⟨fun n hn=>?_,bothL_srt L M hL2 hM2⟩
    rcases (bothL_mem n L M).1 hn with h | h
    ·exact srt_head hL n h
    ·have:=srt_head hM n h;omega
termination_by L M=>L.length+M.length
def difB (page:Int) (L M:List (Int × List Int)) (n:Int):Bool:=!decide ((kget L n).isSome=(kget M n).isSome) || !decide (pgB page L n=pgB page M n)
theorem both_count (page:Int) {L M:List (Int × List Int)} (hL:SrtP L) (hM:SrtP M):((bothL L M).filter (difB page L M)).length=unlM L M:=by
 have hnd:(L.map Prod.fst ++ (M.filter (gU L)).map Prod.fst).Nodup:=by
  refine List.nodup_append.2 ⟨hL.nodup,SrtP.nodup (hM.sublist List.filter_sublist),fun a ha b hb e=>?_⟩
  obtain ⟨x,hx,rfl⟩:=List.mem_map.1 ha
  obtain ⟨y,hy,rfl⟩:=List.mem_map.1 hb
  have h1:=(List.mem_filter.1 hy).2
  unfold gU at h1
  have h2:=(kget_iff hL (n:=x.1) (b:=x.2)).2 hx
  rw [← e,h2] at h1
  cases h1
 have hp:(bothL L M).Perm (L.map Prod.fst ++ (M.filter (gU L)).map Prod.fst):=by
  refine (List.perm_ext_iff_of_nodup ((bothL_srt L M hL hM).imp (fun h=>by omega)) hnd).2 (fun n=>?_)
  rw [bothL_mem,List.mem_append]
  constructor
  ·rintro (h | h)
   ·exact .inl h
   ·obtain ⟨y,hy,rfl⟩:=List.mem_map.1 h
    by_cases hg:gU L y=true
    ·exact .inr (List.mem_map.2 ⟨y,List.mem_filter.2 ⟨hy,hg⟩,rfl⟩)
    ·unfold gU at hg
     obtain ⟨b,hb⟩:=Option.ne_none_iff_exists'.1 (by simpa using hg:¬ kget L y.1=none)
     exact .inl (List.mem_map.2 ⟨_,kget_mem hb,rfl⟩)
  ·rintro (h | h)
   ·exact .inl h
   ·obtain ⟨y,hy,rfl⟩:=List.mem_map.1 h
    exact .inr (List.mem_map.2 ⟨y,(List.mem_filter.1 hy).1,rfl⟩)
 rw [(hp.filter _).length_eq,List.filter_append,List.length_append,List.filter_map,List.filter_map,List.length_map,List.length_map]
 unfold unlM
 congr 1
 ·refine congrArg List.length (List.filter_congr (fun x hx=>?_))
  have h2:=(kget_iff hL (n:=x.1) (b:=x.2)).2 hx
  show difB page L M x.1=fU M x
  unfold difB fU pgB
  rw [h2]
  cases hk:kget M x.1 with
  | none=>simp
  | some b=>
   simp only [Option.isSome_some,decide_true,Bool.not_true,Bool.false_or,Option.getD_some,Option.some.injEq]
   congr 1
   exact decide_eq_decide.2 ⟨fun e=>e.symm,fun e=>e.symm⟩
 ·refine congrArg List.length (List.filter_eq_self.2 (fun y hy=>?_))
  obtain ⟨hy1,hy2⟩:=List.mem_filter.1 hy
  unfold gU at hy2
  have h2:=(kget_iff hM (n:=y.1) (b:=y.2)).2 hy1
  show difB page L M y.1=true
  unfold difB
  rw [h2]
  cases hk:kget L y.1 with
  | none=>simp
  | some b=>rw [hk] at hy2;cases hy2
/-- The same as far as process k. -/
def sameTo (st st2:Mc) (k:Nat):Prop:=∀ j:Nat,j < k→st.has (j:Int)=st2.has (j:Int)∧(st.has (j:Int)=true→st.rs (j:Int)=st2.rs (j:Int)∧∀ n ∈ bothL (st.ms (j:Int)) (st2.ms (j:Int)),pgB st.c.page (st.ms (j:Int)) n=pgB st2.c.page (st2.ms (j:Int)) n)
theorem pidsK_congr {v v2:BitVec 64}:∀ k:Nat,(∀ j,j < k→v.getLsbD j=v2.getLsbD j)→pidsK v k=pidsK v2 k
 | 0,_=>rfl
 | k+1,h=>by rw [pidsK,pidsK,pidsK_congr k (fun j hj=>h j (by omega)),h k (by omega)]
theorem sameTo_iff {st st2:Mc} (h:McOk st) (h2:McOk st2) (hc:st.c=st2.c):sameTo st st2 st.pr↔SameP st st2:=by
 have hpr:st.pr=st2.pr:=by unfold Mc.pr;rw [hc]
 have hin:∀ {s:Mc},McOk s→s.pr=st.pr→∀ p,s.has p=true→∃ j:Nat,p=(j:Int)∧j < st.pr:=fun {s} hs hsp p hp=>by
  have h1:=hs.prI
  unfold Mc.has hasB at hp
  simp at hp
  exact ⟨p.toNat,by omega,by omega⟩
 have hbit:∀ {s:Mc},McOk s→s.pr=st.pr→∀ j:Nat,j < st.pr→s.has (j:Int)=s.v.getLsbD j:=fun {s} hs hsp j hj=>by
  unfold Mc.has
  rw [← hs.prI,hsp]
  exact hasB_nat hj
 have hms:∀ {s:Mc},McOk s→s.pr=st.pr→∀ p,∀ x ∈ s.ms p,∃ j:Nat,p=(j:Int)∧j < st.pr∧s.has p=true:=fun {s} hs hsp p x hx=>by
  cases hh:s.has p with
  | false=>rw [(hs.gone p hh).2] at hx;cases hx
  | true=>
   obtain ⟨j,e,hj⟩:=hin hs hsp p hh
   exact ⟨j,e,hj,rfl⟩
 constructor
 ·intro hs
  refine ⟨by rw [hc],?_,fun p hp=>?_,fun p x hx=>?_,fun p x hx=>?_⟩
  ·rw [← hpr]
   exact pidsK_congr _ (fun j hj=>by rw [← hbit h rfl j hj,← hbit h2 hpr.symm j hj];exact (hs j hj).1)
  ·have hh:=(h.mem p).1 hp
   obtain ⟨j,rfl,hj⟩:=hin h rfl p hh
   exact ((hs j hj).2 hh).1
  ·obtain ⟨j,rfl,hj,hh⟩:=hms h rfl p x hx
   exact ((hs j hj).2 hh).2 x.1 ((bothL_mem _ _ _).2 (.inl (List.mem_map.2 ⟨x,hx,rfl⟩)))
  ·obtain ⟨j,rfl,hj,hh⟩:=hms h2 hpr.symm p x hx
   exact ((hs j hj).2 (by rw [(hs j hj).1];exact hh)).2 x.1 ((bothL_mem _ _ _).2 (.inr (List.mem_map.2 ⟨x,hx,rfl⟩)))
 ·rintro ⟨_,hp,hr,h3,h4⟩ j hj
  have he:st.has (j:Int)=st2.has (j:Int):=by
   rw [Bool.eq_iff_iff,← h.mem,← h2.mem]
   unfold Mc.pids
   rw [hp]
  refine ⟨he,fun hh=>⟨hr _ ((h.mem _).2 hh),fun n hn=>?_⟩⟩
  rcases (bothL_mem _ _ _).1 hn with hn | hn
  ·obtain ⟨x,hx,rfl⟩:=List.mem_map.1 hn
   exact h3 _ x hx
  ·obtain ⟨x,hx,rfl⟩:=List.mem_map.1 hn
   exact h4 _ x hx
end Go.Proofs.YtnbjodoajfkekaaGreat
