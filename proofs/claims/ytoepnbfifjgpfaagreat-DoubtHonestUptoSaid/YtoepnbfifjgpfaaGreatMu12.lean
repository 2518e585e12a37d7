/- The document's regions: made. -/
import Derived.Test.YtoepnbfifjgpfaaGreatMu0
import Derived.Test.YtoepnbfifjgpfaaGreatMu11
import Derived.IntWalk
namespace Go.Proofs.YtoepnbfifjgpfaaGreat
open Go.RowKit
theorem segs_snoc (f:Int→Int):∀ (l:List Int) (a b:Int),segsG f (l ++ [a,b])=segsG f (l ++ [a]) ++ (if f a = -1 then [] else [⟨a,b,f a⟩])
 | [],a,b=>by show (if f a = -1 then [] else [⟨a,b,f a⟩]) ++ segsG f [b]=segsG f [a] ++ _;simp [segsG]
 | [c],a,b=>by
  show (if f c = -1 then [] else [⟨c,a,f c⟩]) ++ segsG f ([] ++ [a,b])=((if f c = -1 then [] else [⟨c,a,f c⟩]) ++ segsG f ([] ++ [a])) ++ _
  rw [segs_snoc f [] a b,List.append_assoc]
 | c :: d :: l,a,b=>by
  show (if f c = -1 then [] else [⟨c,d,f c⟩]) ++ segsG f ((d :: l) ++ [a,b])=((if f c = -1 then [] else [⟨c,d,f c⟩]) ++ segsG f ((d :: l) ++ [a])) ++ _
  rw [segs_snoc f (d :: l) a b,List.append_assoc]
theorem take_two {A:List Int} {k:Nat} {x y:Int} (hx:A[k]?=some x) (hy:A[k+1]?=some y):A.take (k+2)=A.take k ++ [x,y]∧A.take (k+1)=A.take k ++ [x]:=by
 constructor
 ·rw [List.take_add_one,List.take_add_one,hx,hy,List.append_assoc];rfl
 ·rw [List.take_add_one,hx];rfl
theorem madeUp (f:Int→Int) {A:List Int} {k:Nat} {x y:Int} (hx:A[k]?=some x) (hy:A[k+1]?=some y) :
  joinedS (segsG f (A.take (k+2)))=if f x = -1 then joinedS (segsG f (A.take (k+1))) else joinStep (joinedS (segsG f (A.take (k+1)))) ⟨x,y,f x⟩:=by
 obtain ⟨e1,e2⟩:=take_two hx hy
 rw [e1,segs_snoc,← e2]
 by_cases h:f x = -1
 ·rw [if_pos h,if_pos h,List.append_nil]
 ·rw [if_neg h,if_neg h,joinedS_snoc]
theorem segs_len (f:Int→Int):∀ A:List Int,(segsG f A).length≤A.length
 | []=>by simp [segsG]
 | [_]=>by simp [segsG]
 | a :: b :: l=>by
  have h:=segs_len f (b :: l)
  rw [segsG,List.length_append]
  simp only [List.length_cons] at h ⊢
  split <;> simp <;> omega
theorem joinedS_le (l:List Rg):(joinedS l).length≤l.length:=by
 have:=joinedS_len l l.length
 rwa [List.take_length] at this
set_option linter.unusedSimpArgs false in
set_option linter.unusedVariables false in
set_option maxRecDepth 100000 in
set_option maxHeartbeats 2000000 in
theorem made_any (a:Option Addr) (n c:Nat) (A:List Int) (ap:Option Addr) (np cp:Nat) (f:Int→Int) (w:World) (hA:RdAt .i64 w a n c A) (hP:RdAt .i64 w ap np cp (A.dropLast.map f)) (hn:n≤3000) :
  Calls Tryz.prog 99 #[.slice a n c,.slice ap np cp] w (GivesRgs (madeL f A) w):=by
 have HA:=Lib.hid hA;have HP:=Lib.hid hP
 have hnp:n - 1=np:=by have h1:=hP.len;have h2:=hA.len;simp at h1;omega
 clear hA hP
 go_enter Tryz.func99,Tryz.ntmps99
 go_wp2
 go_loopw [5,6] (fun v i wr=>∃ k:Nat,(k+1≤n∨k=0)∧i = .int .i64 k∧Hid (OwnsS Rg.cells 3 110 wr w.heap.size v (joinedS (segsG f (A.take (k+1))))∧Below w.heap.size w wr)) (fun _ i _=>n - (intOf i).toNat)
 case atStart=>
  refine ⟨0,.inr rfl,rfl,?_,Below.refl _ _⟩
  have e:segsG f (A.take (0+1))=[]:=by cases A <;> rfl
  rw [e]
  exact OwnsS.nil _ _ _ _ _
 case round=>
  obtain ⟨k,hk,rfl,hh⟩:=hrel
  obtain ⟨h1,h2⟩:=hh.out
  have X:=Lib.hid h1;have B:=Lib.hid h2;clear hh h1 h2
  by_cases hkn:k+1 < n
  ·have hkci:(k:Int)+1 < (n:Int):=by omega
   have hl:=HA.out.len
   obtain ⟨x,hx⟩:∃ x,A[k]?=some x:=⟨A[k],List.getElem?_eq_getElem (by omega)⟩
   obtain ⟨y,hy⟩:∃ y,A[k+1]?=some y:=⟨A[k+1],List.getElem?_eq_getElem (by omega)⟩
   have hkp:k < np:=by omega
   obtain ⟨fx,hfx⟩:∃ fx,f x=fx:=⟨_,rfl⟩
   have HE0:=Lib.hid (madeUp f hx hy)
   have hjl:(joinedS (segsG f (A.take (k+1)))).length≤3001:=by
    have h1:=joinedS_le (segsG f (A.take (k+1)))
    have h2:=segs_len f (A.take (k+1))
    rw [List.length_take] at h2
    omega
   have HCC0:Hid (∃ ga oa gp op,a=some ⟨ga,oa,none⟩∧ap=some ⟨gp,op,none⟩∧∀ w1,Below w.heap.size w w1→w1.cell? ⟨ga,oa+k,none⟩=some (.int .i64 x)∧w1.cell? ⟨ga,oa+(k+1),none⟩=some (.int .i64 y)∧w1.cell? ⟨gp,op+k,none⟩=some (.int .i64 fx)):=by
    obtain ⟨ga,oa,ea,_⟩:=HA.out.cell k (by omega)
    obtain ⟨gp,op,ep,_⟩:=HP.out.cell k hkp
    refine ⟨ga,oa,gp,op,ea,ep,fun w1 hb=>?_⟩
    obtain ⟨g1,o1,e1,c1⟩:=(HA.out.below hb).cell k (by omega)
    obtain ⟨g2,o2,e2,c2⟩:=(HA.out.below hb).cell (k+1) hkn
    obtain ⟨g3,o3,e3,c3⟩:=(HP.out.below hb).cell k hkp
    rw [ea] at e1 e2;rw [ep] at e3
    injection e1 with e1
    injection e1 with q1 q2
    injection e2 with e2
    injection e2 with q3 q4
    injection e3 with e3
    injection e3 with q5 q6
    subst q1 q2 q3 q4 q5 q6
    have n1:nth A k=x:=by unfold nth;rw [List.getD_eq_getElem?_getD,hx];rfl
    have n2:nth A (k+1)=y:=by unfold nth;rw [List.getD_eq_getElem?_getD,hy];rfl
    have n3:nth (A.dropLast.map f) k=fx:=by
     unfold nth
     rw [List.getD_eq_getElem?_getD,List.getElem?_map,List.getElem?_dropLast,if_pos (by omega),hx]
     exact hfx
    rw [n1] at c1;rw [n2] at c2;rw [n3] at c3
    exact ⟨c1,c2,c3⟩
   obtain ⟨ga,oa,gp,op,ha,hap,hcc⟩:=HCC0.out
   subst ha hap
   have HCC:=Lib.hid hcc
   obtain ⟨cx,cy,cp0⟩:=hcc wr B.out
   rw [hfx] at HE0
   obtain ⟨J,hJ⟩:∃ J,joinedS (segsG f (A.take (k+1)))=J:=⟨_,rfl⟩
   rw [hJ] at X HE0 hjl
   have HJL:Hid (J.length < 1000000000000):=by show _ < _;omega
   obtain ⟨qj,hqj⟩:∃ qj,J.length=qj:=⟨_,rfl⟩
   obtain ⟨aj,cj,rfl⟩:=X.out.shapeN qj hqj
   rw [hqj] at hjl;have HQ:=Lib.hid hqj;clear hl hx hy hfx HCC0 hcc hJ hqj
   by_cases hf1:fx = -1
   ·have HE:Hid (joinedS (segsG f (A.take (k+1+1)))=J):=by show _=_;rw [HE0.out,if_pos hf1]
    subst hf1
    go_wp2
    go_roundw
    case rel=>exact ⟨k+1,by omega,by go_num,by rw [HE.out];exact X.out,B.out⟩
    case measure=>simp [intOf] <;> omega
   have df:(fx == -1)=false:=by simpa using hf1
   by_cases hq0:qj=0
   ·subst hq0
    have hJ0:J=[]:=List.eq_nil_of_length_eq_zero HQ.out
    have HE:Hid (joinedS (segsG f (A.take (k+1+1)))=J ++ [⟨x,y,fx⟩]):=by
     show _=_;rw [HE0.out,if_neg hf1,hJ0];rfl
    clear hf1 hJ0
    go_wp2
    go_quiet (fail)
    obtain ⟨wS,hwS⟩:∃ wS,wr.drewN nq=wS:=⟨_,rfl⟩
    have BS:Hid (Below w.heap.size w wS):=by show Below _ _ _;rw [← hwS];exact Below.call B.out (belowN (Below.refl _ _) _)
    have XS:Hid (OwnsS Rg.cells 3 110 wS w.heap.size (.slice aj 0 cj) J):=by show OwnsS _ _ _ _ _ _ _;rw [← hwS];exact X.out.below (belowN (Below.refl _ _) _)
    rw [hwS];clear hwS
    go_wp2
    have HC3:Hid (∀ w1,Below wS.heap.size wS w1→w1.cell? ⟨ga,oa+k,none⟩=some (.int .i64 x)∧w1.cell? ⟨ga,oa+(k+1),none⟩=some (.int .i64 y)∧w1.cell? ⟨gp,op+k,none⟩=some (.int .i64 fx)):=fun w1 hb=>HCC.out w1 (Below.trans BS.out (hb.mono BS.out.size))
    have hkn0:k < n:=by omega
    have hk1w:IntKind.i64.wrap ((k:Int)+1)=(k:Int)+1:=IntWalk.i64_in _ (by omega)
    have hk1p:(0:Int)≤(k:Int)+1:=by omega
    have hk1n:((k:Int)+1).toNat=k+1:=by omega
    have hk1c:decide ((k:Int)+1 < 0)=false:=decide_eq_false (by omega)
    refine' reg_kill [(16,15)] [eqV _,eqV _,eqV _,eqV _,eqV _,eqV _,eqV _,eqV _,eqV _,eqV _,eqV _,eqV _,eqV _,eqV _,eqV _,(fun v z=>∃ g,v=Value.slice (some ⟨g,0,none⟩) 1 1∧z.heap[g]?=some (.cells #[.int .i64 x,.int .i64 y,.int .i64 fx] 110 (0,0))),(fun v z=>OwnsS Rg.cells 3 110 z w.heap.size v (J ++ [⟨x,y,fx⟩])),(fun v z=>OwnsS Rg.cells 3 110 z w.heap.size v (J ++ [⟨x,y,fx⟩]))] [(16,fun _ z=>Below w.heap.size w z)] [(4,fun z=>Below wS.heap.size wS z),(9,fun z=>Below wS.heap.size wS z),(13,fun z=>Below wS.heap.size wS z),(15,fun z=>Below wS.heap.size wS z),(16,fun z=>Below w.heap.size w z∧OwnsS Rg.cells 3 110 z w.heap.size (.slice aj 0 cj) J),(18,fun z=>Below w.heap.size w z)] [60,61,62,63,64,65,66,67,68,69,70,71,72,73,74,75,76,5] [[],[],[],[1,2],[3],[],[],[6],[5,7],[8],[],[],[10,11],[12],[4,9,13],[14],[0,15],[16]] [0,1,2,3,4,5,6,7,8,9,10,11,12,13,14,15,16,17] 18 (by kernel_rfl) (by kernel_rfl) ⟨eS _,eS _,eS _,eS _,eS _,eS _,eS _,eS _,eS _,eS _,eS _,eS _,eS _,eS _,eS _,fun _ _ _ ⟨g,e,p⟩ b=>⟨g,e,row_keep p b⟩,fun _ _ _ p b=>OwnsS.below p b,fun _ _ _ p b=>OwnsS.below p b,trivial⟩ ⟨⟨.inl (eS _),.inl (eS _),.inl (eS _),.inl (eS _),.inl (eS _),.inl (eS _),.inl (eS _),.inl (eS _),.inl (eS _),.inl (eS _),.inl (eS _),.inl (eS _),.inl (eS _),.inl (eS _),.inl (eS _),.inr (.inr (.inr (by kernel_rfl))),.inr (.inr (.inl rfl)),.inr (.inl (by kernel_rfl)),trivial⟩,trivial⟩ ⟨fun _ _ p b=>p.trans (b.mono p.size),fun _ _ p b=>p.trans (b.mono p.size),fun _ _ p b=>p.trans (b.mono p.size),fun _ _ p b=>p.trans (b.mono p.size),fun _ _ p b=>⟨p.1.trans (b.mono p.1.size),p.2.below b⟩,fun _ _ p b=>p.trans (b.mono p.size),trivial⟩ ⟨⟨.inr (.inl (by kernel_rfl)),.inr (.inl (by kernel_rfl)),.inr (.inl (by kernel_rfl)),.inr (.inl (by kernel_rfl)),.inr (.inr rfl),.inl (fun _ _ _ g=>g),trivial⟩,trivial⟩ ⟨(Below.refl wS.heap.size wS).drew,(Below.refl wS.heap.size wS).drew,(Below.refl wS.heap.size wS).drew,(Below.refl wS.heap.size wS).drew,⟨BS.out.drew,XS.out⟩,BS.out.drew,trivial⟩ 78 rfl (by kernel_rfl) (by kernel_rfl) rfl rfl 18 rfl ?q1obl ?q1fin
    case q1obl=>
     refine ⟨?q1o0,?q1o1,?q1o2,?q1o3,?q1o4,?q1o5,?q1o6,?q1o7,?q1o8,?q1o9,?q1o10,?q1o11,?q1o12,?q1o13,?q1o14,?q1o15,?q1o16,?q1o17,trivial⟩
     case q1o0 | q1o1 | q1o2 | q1o5 | q1o6 | q1o10 | q1o11=>
      intro w1 hI;refine t2o (by rfl) ?_;intro K hK;go_simp;refine hK _ _ ⟨rfl,Kept.refl _,?_⟩;show _=_;simp only [gv1];rfl
     case q1o3=>
      intro w1 hI;intro va ha;change _=_ at ha;subst va;intro vb hb;change _=_ at hb;subst vb;refine t2o (by rfl) ?_;intro K hK;simp only [gv2];go_simp;refine hK _ _ ⟨rfl,Kept.refl _,?_⟩;show _=_;simp only [gv1];rfl
     case q1o4=>
      intro w1 hI
      replace hI:(fun z=>Below wS.heap.size wS z) w1:=hI
      intro v3 h3;change _=_ at h3;subst v3;refine t2o (by rfl) ?_;intro K hK;simp only [gv2]
      obtain ⟨cx0,cy0,cp0⟩:=HC3.out w1 hI
      go_simp;refine hK _ _ ⟨rfl,Kept.refl _,?_⟩;show _=_;simp only [gv1];rfl
     case q1o7=>
      intro w1 hI;intro va ha;change _=_ at ha;subst va;refine t2o (by rfl) ?_;intro K hK;simp only [gv2];go_simp;refine hK _ _ ⟨rfl,Kept.refl _,?_⟩;show _=_;simp only [gv1];rfl
     case q1o8=>
      intro w1 hI;intro va ha;change _=_ at ha;subst va;intro vb hb;change _=_ at hb;subst vb;refine t2o (by rfl) ?_;intro K hK;simp only [gv2];go_simp;refine hK _ _ ⟨rfl,Kept.refl _,?_⟩;show _=_;simp only [gv1];rfl
     case q1o9=>
      intro w1 hI
      replace hI:(fun z=>Below wS.heap.size wS z) w1:=hI
      intro v8 h8;change _=_ at h8;subst v8;refine t2o (by rfl) ?_;intro K hK;simp only [gv2]
      obtain ⟨cx0,cy0,cp0⟩:=HC3.out w1 hI
      go_simp;refine hK _ _ ⟨rfl,Kept.refl _,?_⟩;show _=_;simp only [gv1];rfl
     case q1o12=>
      intro w1 hI;intro va ha;change _=_ at ha;subst va;intro vb hb;change _=_ at hb;subst vb;refine t2o (by rfl) ?_;intro K hK;simp only [gv2];go_simp;refine hK _ _ ⟨rfl,Kept.refl _,?_⟩;show _=_;simp only [gv1];rfl
     case q1o13=>
      intro w1 hI
      replace hI:(fun z=>Below wS.heap.size wS z) w1:=hI
      intro v12 h12;change _=_ at h12;subst v12;refine t2o (by rfl) ?_;intro K hK;simp only [gv2]
      obtain ⟨cx0,cy0,cp0⟩:=HC3.out w1 hI
      go_simp;refine hK _ _ ⟨rfl,Kept.refl _,?_⟩;show _=_;simp only [gv1];rfl
     case q1o14=>
      intro w1 hI;intro va ha;change _=_ at ha;subst va;intro vb hb;change _=_ at hb;subst vb;intro vc hc;change _=_ at hc;subst vc;refine t2o (by rfl) ?_;intro K hK;simp only [gv2];go_simp;refine hK _ _ ⟨rfl,Kept.refl _,?_⟩;show _=_;simp only [gv1];rfl
     case q1o15=>
      intro w1 hI
      replace hI:(fun z=>Below wS.heap.size wS z) w1:=hI
      intro v14 h14;change _=_ at h14;subst v14;refine t2o (by rfl) ?_;intro K hK;simp only [gv2];go_simp
      refine hK _ _ ⟨rfl,below_a _ _,?_⟩
      show ∃ g,_=Value.slice (some ⟨g,0,none⟩) 1 1∧_
      simp only [gv1]
      exact ⟨_,rfl,heap_alloc_new _ _⟩
     case q1o16=>
      intro w1 hI
      replace hI:(fun z=>Below w.heap.size w z∧OwnsS Rg.cells 3 110 z w.heap.size (.slice aj 0 cj) J) w1:=hI
      intro v0 h0;change _=_ at h0;subst v0;intro v15 h15
      obtain ⟨g15,rfl,h15⟩:=h15
      refine t2o (by rfl) ?_;intro K hK;simp only [gv2]
      refine wp_appS_one rgC Tryz.underlying77 rgI rfl (by decide) 76 rfl (.tmp 60) (.tmp 75) rfl w.heap.size (.slice aj 0 cj) J rfl hI.2 g15 1 ⟨x,y,fx⟩ rfl h15 HJL.out hI.1.size ?_
      intro v9 w9 ho9 hg9
      refine hK _ _ ⟨rfl,Below.grown hI.1 hg9.1 hI.1.size (fun z e=>(hI.2.at_base z e).1),?_⟩
      show OwnsS _ _ _ _ _ _ _
      simp only [gv1]
      exact ho9
     case q1o17=>
      intro w1 hI;intro v16 h16;refine t2o (by rfl) ?_;intro K hK;simp only [gv2];go_simp;refine hK _ _ ⟨rfl,Kept.refl _,?_⟩
      show OwnsS _ _ _ _ _ _ _
      simp only [gv1]
      exact h16
    intro w1 hI
    replace hI:(fun z=>Below w.heap.size w z) w1:=hI
    intro v0 h0;replace h0:=h0 (by kernel_rfl);change _=_ at h0;subst v0;intro v1 h1;replace h1:=h1 (by kernel_rfl);change _=_ at h1;subst v1;intro v2 h2;replace h2:=h2 (by kernel_rfl);change _=_ at h2;subst v2;intro v3 h3;replace h3:=h3 (by kernel_rfl);change _=_ at h3;subst v3;intro v4 h4;replace h4:=h4 (by kernel_rfl);change _=_ at h4;subst v4;intro v5 h5
    replace h5:=h5 (by kernel_rfl);change _=_ at h5;subst v5;intro v6 h6;replace h6:=h6 (by kernel_rfl);change _=_ at h6;subst v6;intro v7 h7;replace h7:=h7 (by kernel_rfl);change _=_ at h7;subst v7;intro v8 h8;replace h8:=h8 (by kernel_rfl);change _=_ at h8;subst v8;intro v9 h9;replace h9:=h9 (by kernel_rfl);change _=_ at h9;subst v9;intro v10 h10;replace h10:=h10 (by kernel_rfl)
    change _=_ at h10;subst v10;intro v11 h11;replace h11:=h11 (by kernel_rfl);change _=_ at h11;subst v11;intro v12 h12;replace h12:=h12 (by kernel_rfl);change _=_ at h12;subst v12;intro v13 h13;replace h13:=h13 (by kernel_rfl);change _=_ at h13;subst v13;intro v14 h14;replace h14:=h14 (by kernel_rfl);change _=_ at h14;subst v14;intro v15 _;intro v16 h16;replace h16:=h16 (by kernel_rfl)
    intro v17 h17;replace h17:=h17 (by kernel_rfl)
    simp only [Given,gv2]
    clear hk1w hk1p hk1n hk1c hkn0
    go_wp2
    go_roundw
    case rel=>exact ⟨k+1,by omega,by go_num,by rw [HE.out];exact h17,hI⟩
    case measure=>simp [intOf] <;> omega
   ·obtain ⟨mm,rfl⟩:∃ mm,qj=mm+1:=⟨qj - 1,by omega⟩
    obtain ⟨l,z,hlz⟩:∃ l z,J=l ++ [z]:=by
     rcases List.eq_nil_or_concat J with e | ⟨l,z,e⟩
     ·have:=HQ.out
      rw [e] at this
      simp at this
     ·exact ⟨l,z,by rw [e,List.concat_eq_append]⟩
    subst hlz
    have hlm:l.length=mm:=by have:=HQ.out;simp at this;exact this
    have hzl:(l ++ [z])[mm]?=some z:=by rw [← hlm];simp
    obtain ⟨g,cur,hax,hgb,hgr⟩:=X.out.row (by simp)
    subst hax
    obtain ⟨g2,o2,hax,z0,z1,z2⟩:=(X.out.rd rgC).three mm z hzl
    injection hax with hax
    injection hax with hax1 hax2
    subst hax1 hax2
    rw [Nat.zero_add] at z0 z1 z2
    have hfz:∀ i,wr.frozen? ⟨g,i,none⟩=false:=fun i=>frozen_of_row wr g i _ _ hgr
    have HLM:=Lib.hid hlm;have HZL:=Lib.hid hzl;have HGB:=Lib.hid hgb;clear hlm hzl hgr hgb
    obtain ⟨zl,zh,zp⟩:=z
    replace z0:wr.cell? ⟨g,mm * 3,none⟩=some (.int .i64 zl):=z0
    replace z1:wr.cell? ⟨g,mm * 3+1,none⟩=some (.int .i64 zh):=z1
    replace z2:wr.cell? ⟨g,mm * 3+2,none⟩=some (.int .i64 zp):=z2
    by_cases he1:zh=x
    ·by_cases he2:zp=fx
     ·subst he1 he2
      have HE:Hid (joinedS (segsG f (A.take (k+1+1)))=l ++ [⟨zl,y,zp⟩]):=by
       show _=_;rw [HE0.out,if_neg hf1,last_step,if_pos ⟨rfl,rfl⟩]
      clear hf1
      go_wp2
      go_quiet (fail)
      go_wp2
      go_roundw
      case rel=>
       refine ⟨k+1,by omega,by go_num,?_,Below.grown (Below.call B.out (belowN (Below.refl wr.heap.size wr) _)) (cell_grown1 _ _ _ _) (Nat.le_trans B.out.size (Nat.le_refl _)) (fun x e=>by injection e with e;have:=HGB.out;omega)⟩
       rw [HE.out]
       have:=OwnsS.put (X.out.below (belowN (Below.refl wr.heap.size wr) nq)) HZL.out (show 1 < 3 by decide) (y:=⟨zl,y,zp⟩) (u:=.int .i64 y) rfl
       have hm:=HLM.out
       subst hm
       rw [show (l ++ [(⟨zl,zh,zp⟩:Rg)]).set l.length ⟨zl,y,zp⟩=l ++ [⟨zl,y,zp⟩] by simp] at this
       exact this
      case measure=>simp [intOf] <;> omega
     ·have HE:Hid (joinedS (segsG f (A.take (k+1+1)))=(l ++ [⟨zl,zh,zp⟩]) ++ [⟨x,y,fx⟩]):=by
       show _=_;rw [HE0.out,if_neg hf1,last_step,if_neg (fun e=>he2 e.2)]
      subst he1
      have d2:(zp == fx)=false:=by simpa using he2
      clear hf1 he2
      go_wp2
      go_quiet (fail)
      obtain ⟨wS,hwS⟩:∃ wS,wr.drewN nq=wS:=⟨_,rfl⟩
      have BS:Hid (Below w.heap.size w wS):=by show Below _ _ _;rw [← hwS];exact Below.call B.out (belowN (Below.refl _ _) _)
      have XS:Hid (OwnsS Rg.cells 3 110 wS w.heap.size (.slice (some ⟨g,0,none⟩) (mm+1) cj) (l ++ [⟨zl,zh,zp⟩])):=by show OwnsS _ _ _ _ _ _ _;rw [← hwS];exact X.out.below (belowN (Below.refl _ _) _)
      rw [hwS];clear hwS
      go_wp2
      have HC3:Hid (∀ w1,Below wS.heap.size wS w1→w1.cell? ⟨ga,oa+k,none⟩=some (.int .i64 zh)∧w1.cell? ⟨ga,oa+(k+1),none⟩=some (.int .i64 y)∧w1.cell? ⟨gp,op+k,none⟩=some (.int .i64 fx)):=fun w1 hb=>HCC.out w1 (Below.trans BS.out (hb.mono BS.out.size))
      have hkn0:k < n:=by omega
      have hk1w:IntKind.i64.wrap ((k:Int)+1)=(k:Int)+1:=IntWalk.i64_in _ (by omega)
      have hk1p:(0:Int)≤(k:Int)+1:=by omega
      have hk1n:((k:Int)+1).toNat=k+1:=by omega
      have hk1c:decide ((k:Int)+1 < 0)=false:=decide_eq_false (by omega)
      refine' reg_kill [(16,15)] [eqV _,eqV _,eqV _,eqV _,eqV _,eqV _,eqV _,eqV _,eqV _,eqV _,eqV _,eqV _,eqV _,eqV _,eqV _,(fun v z=>∃ g,v=Value.slice (some ⟨g,0,none⟩) 1 1∧z.heap[g]?=some (.cells #[.int .i64 zh,.int .i64 y,.int .i64 fx] 110 (0,0))),(fun v z=>OwnsS Rg.cells 3 110 z w.heap.size v ((l ++ [⟨zl,zh,zp⟩]) ++ [⟨zh,y,fx⟩])),(fun v z=>OwnsS Rg.cells 3 110 z w.heap.size v ((l ++ [⟨zl,zh,zp⟩]) ++ [⟨zh,y,fx⟩]))] [(16,fun _ z=>Below w.heap.size w z)] [(4,fun z=>Below wS.heap.size wS z),(9,fun z=>Below wS.heap.size wS z),(13,fun z=>Below wS.heap.size wS z),(15,fun z=>Below wS.heap.size wS z),(16,fun z=>Below w.heap.size w z∧OwnsS Rg.cells 3 110 z w.heap.size (.slice (some ⟨g,0,none⟩) (mm+1) cj) (l ++ [⟨zl,zh,zp⟩])),(18,fun z=>Below w.heap.size w z)] [60,61,62,63,64,65,66,67,68,69,70,71,72,73,74,75,76,5] [[],[],[],[1,2],[3],[],[],[6],[5,7],[8],[],[],[10,11],[12],[4,9,13],[14],[0,15],[16]] [0,1,2,3,4,5,6,7,8,9,10,11,12,13,14,15,16,17] 18 (by kernel_rfl) (by kernel_rfl) ⟨eS _,eS _,eS _,eS _,eS _,eS _,eS _,eS _,eS _,eS _,eS _,eS _,eS _,eS _,eS _,fun _ _ _ ⟨g,e,p⟩ b=>⟨g,e,row_keep p b⟩,fun _ _ _ p b=>OwnsS.below p b,fun _ _ _ p b=>OwnsS.below p b,trivial⟩ ⟨⟨.inl (eS _),.inl (eS _),.inl (eS _),.inl (eS _),.inl (eS _),.inl (eS _),.inl (eS _),.inl (eS _),.inl (eS _),.inl (eS _),.inl (eS _),.inl (eS _),.inl (eS _),.inl (eS _),.inl (eS _),.inr (.inr (.inr (by kernel_rfl))),.inr (.inr (.inl rfl)),.inr (.inl (by kernel_rfl)),trivial⟩,trivial⟩ ⟨fun _ _ p b=>p.trans (b.mono p.size),fun _ _ p b=>p.trans (b.mono p.size),fun _ _ p b=>p.trans (b.mono p.size),fun _ _ p b=>p.trans (b.mono p.size),fun _ _ p b=>⟨p.1.trans (b.mono p.1.size),p.2.below b⟩,fun _ _ p b=>p.trans (b.mono p.size),trivial⟩ ⟨⟨.inr (.inl (by kernel_rfl)),.inr (.inl (by kernel_rfl)),.inr (.inl (by kernel_rfl)),.inr (.inl (by kernel_rfl)),.inr (.inr rfl),.inl (fun _ _ _ g=>g),trivial⟩,trivial⟩ ⟨(Below.refl wS.heap.size wS).drew,(Below.refl wS.heap.size wS).drew,(Below.refl wS.heap.size wS).drew,(Below.refl wS.heap.size wS).drew,⟨BS.out.drew,XS.out⟩,BS.out.drew,trivial⟩ 78 rfl (by kernel_rfl) (by kernel_rfl) rfl rfl 18 rfl ?q2obl ?q2fin
      case q2obl=>
       refine ⟨?q2o0,?q2o1,?q2o2,?q2o3,?q2o4,?q2o5,?q2o6,?q2o7,?q2o8,?q2o9,?q2o10,?q2o11,?q2o12,?q2o13,?q2o14,?q2o15,?q2o16,?q2o17,trivial⟩
       case q2o0 | q2o1 | q2o2 | q2o5 | q2o6 | q2o10 | q2o11=>
        intro w1 hI;refine t2o (by rfl) ?_;intro K hK;go_simp;refine hK _ _ ⟨rfl,Kept.refl _,?_⟩;show _=_;simp only [gv1];rfl
       case q2o3=>
        intro w1 hI;intro va ha;change _=_ at ha;subst va;intro vb hb;change _=_ at hb;subst vb;refine t2o (by rfl) ?_;intro K hK;simp only [gv2];go_simp;refine hK _ _ ⟨rfl,Kept.refl _,?_⟩;show _=_;simp only [gv1];rfl
       case q2o4=>
        intro w1 hI
        replace hI:(fun z=>Below wS.heap.size wS z) w1:=hI
        intro v3 h3;change _=_ at h3;subst v3;refine t2o (by rfl) ?_;intro K hK;simp only [gv2]
        obtain ⟨cx0,cy0,cp0⟩:=HC3.out w1 hI
        go_simp;refine hK _ _ ⟨rfl,Kept.refl _,?_⟩;show _=_;simp only [gv1];rfl
       case q2o7=>
        intro w1 hI;intro va ha;change _=_ at ha;subst va;refine t2o (by rfl) ?_;intro K hK;simp only [gv2];go_simp;refine hK _ _ ⟨rfl,Kept.refl _,?_⟩;show _=_;simp only [gv1];rfl
       case q2o8=>
        intro w1 hI;intro va ha;change _=_ at ha;subst va;intro vb hb;change _=_ at hb;subst vb;refine t2o (by rfl) ?_;intro K hK;simp only [gv2];go_simp;refine hK _ _ ⟨rfl,Kept.refl _,?_⟩;show _=_;simp only [gv1];rfl
       case q2o9=>
        intro w1 hI
        replace hI:(fun z=>Below wS.heap.size wS z) w1:=hI
        intro v8 h8;change _=_ at h8;subst v8;refine t2o (by rfl) ?_;intro K hK;simp only [gv2]
        obtain ⟨cx0,cy0,cp0⟩:=HC3.out w1 hI
        go_simp;refine hK _ _ ⟨rfl,Kept.refl _,?_⟩;show _=_;simp only [gv1];rfl
       case q2o12=>
        intro w1 hI;intro va ha;change _=_ at ha;subst va;intro vb hb;change _=_ at hb;subst vb;refine t2o (by rfl) ?_;intro K hK;simp only [gv2];go_simp;refine hK _ _ ⟨rfl,Kept.refl _,?_⟩;show _=_;simp only [gv1];rfl
       case q2o13=>
        intro w1 hI
        replace hI:(fun z=>Below wS.heap.size wS z) w1:=hI
        intro v12 h12;change _=_ at h12;subst v12;refine t2o (by rfl) ?_;intro K hK;simp only [gv2]
        obtain ⟨cx0,cy0,cp0⟩:=HC3.out w1 hI
        go_simp;refine hK _ _ ⟨rfl,Kept.refl _,?_⟩;show _=_;simp only [gv1];rfl
       case q2o14=>
        intro w1 hI;intro va ha;change _=_ at ha;subst va;intro vb hb;change _=_ at hb;subst vb;intro vc hc;change _=_ at hc;subst vc;refine t2o (by rfl) ?_;intro K hK;simp only [gv2];go_simp;refine hK _ _ ⟨rfl,Kept.refl _,?_⟩;show _=_;simp only [gv1];rfl
       case q2o15=>
        intro w1 hI
        replace hI:(fun z=>Below wS.heap.size wS z) w1:=hI
        intro v14 h14;change _=_ at h14;subst v14;refine t2o (by rfl) ?_;intro K hK;simp only [gv2];go_simp
        refine hK _ _ ⟨rfl,below_a _ _,?_⟩
        show ∃ g,_=Value.slice (some ⟨g,0,none⟩) 1 1∧_
        simp only [gv1]
        exact ⟨_,rfl,heap_alloc_new _ _⟩
       case q2o16=>
        intro w1 hI
        replace hI:(fun z=>Below w.heap.size w z∧OwnsS Rg.cells 3 110 z w.heap.size (.slice (some ⟨g,0,none⟩) (mm+1) cj) (l ++ [⟨zl,zh,zp⟩])) w1:=hI
        intro v0 h0;change _=_ at h0;subst v0;intro v15 h15
        obtain ⟨g15,rfl,h15⟩:=h15
        refine t2o (by rfl) ?_;intro K hK;simp only [gv2]
        refine wp_appS_one rgC Tryz.underlying77 rgI rfl (by decide) 76 rfl (.tmp 60) (.tmp 75) rfl w.heap.size (.slice (some ⟨g,0,none⟩) (mm+1) cj) (l ++ [⟨zl,zh,zp⟩]) rfl hI.2 g15 1 ⟨zh,y,fx⟩ rfl h15 HJL.out hI.1.size ?_
        intro v9 w9 ho9 hg9
        refine hK _ _ ⟨rfl,Below.grown hI.1 hg9.1 hI.1.size (fun z e=>(hI.2.at_base z e).1),?_⟩
        show OwnsS _ _ _ _ _ _ _
        simp only [gv1]
        exact ho9
       case q2o17=>
        intro w1 hI;intro v16 h16;refine t2o (by rfl) ?_;intro K hK;simp only [gv2];go_simp;refine hK _ _ ⟨rfl,Kept.refl _,?_⟩
        show OwnsS _ _ _ _ _ _ _
        simp only [gv1]
        exact h16
      intro w1 hI
      replace hI:(fun z=>Below w.heap.size w z) w1:=hI
      intro v0 h0;replace h0:=h0 (by kernel_rfl);change _=_ at h0;subst v0;intro v1 h1;replace h1:=h1 (by kernel_rfl);change _=_ at h1;subst v1;intro v2 h2;replace h2:=h2 (by kernel_rfl);change _=_ at h2;subst v2;intro v3 h3;replace h3:=h3 (by kernel_rfl);change _=_ at h3;subst v3;intro v4 h4;replace h4:=h4 (by kernel_rfl);change _=_ at h4;subst v4;intro v5 h5
      replace h5:=h5 (by kernel_rfl);change _=_ at h5;subst v5;intro v6 h6;replace h6:=h6 (by kernel_rfl);change _=_ at h6;subst v6;intro v7 h7;replace h7:=h7 (by kernel_rfl);change _=_ at h7;subst v7;intro v8 h8;replace h8:=h8 (by kernel_rfl);change _=_ at h8;subst v8;intro v9 h9;replace h9:=h9 (by kernel_rfl);change _=_ at h9;subst v9;intro v10 h10;replace h10:=h10 (by kernel_rfl)
      change _=_ at h10;subst v10;intro v11 h11;replace h11:=h11 (by kernel_rfl);change _=_ at h11;subst v11;intro v12 h12;replace h12:=h12 (by kernel_rfl);change _=_ at h12;subst v12;intro v13 h13;replace h13:=h13 (by kernel_rfl);change _=_ at h13;subst v13;intro v14 h14;replace h14:=h14 (by kernel_rfl);change _=_ at h14;subst v14;intro v15 _;intro v16 h16;replace h16:=h16 (by kernel_rfl)
      intro v17 h17;replace h17:=h17 (by kernel_rfl)
      simp only [Given,gv2]
      clear hk1w hk1p hk1n hk1c hkn0
      go_wp2
      go_roundw
      case rel=>exact ⟨k+1,by omega,by go_num,by rw [HE.out];exact h17,hI⟩
      case measure=>simp [intOf] <;> omega
    ·have HE:Hid (joinedS (segsG f (A.take (k+1+1)))=(l ++ [⟨zl,zh,zp⟩]) ++ [⟨x,y,fx⟩]):=by
      show _=_;rw [HE0.out,if_neg hf1,last_step,if_neg (fun e=>he1 e.1)]
     have d1:(zh == x)=false:=by simpa using he1
     clear hf1 he1
     go_wp2
     go_quiet (fail)
     obtain ⟨wS,hwS⟩:∃ wS,wr.drewN nq=wS:=⟨_,rfl⟩
     have BS:Hid (Below w.heap.size w wS):=by show Below _ _ _;rw [← hwS];exact Below.call B.out (belowN (Below.refl _ _) _)
     have XS:Hid (OwnsS Rg.cells 3 110 wS w.heap.size (.slice (some ⟨g,0,none⟩) (mm+1) cj) (l ++ [⟨zl,zh,zp⟩])):=by show OwnsS _ _ _ _ _ _ _;rw [← hwS];exact X.out.below (belowN (Below.refl _ _) _)
     rw [hwS];clear hwS
     go_wp2
     have HC3:Hid (∀ w1,Below wS.heap.size wS w1→w1.cell? ⟨ga,oa+k,none⟩=some (.int .i64 x)∧w1.cell? ⟨ga,oa+(k+1),none⟩=some (.int .i64 y)∧w1.cell? ⟨gp,op+k,none⟩=some (.int .i64 fx)):=fun w1 hb=>HCC.out w1 (Below.trans BS.out (hb.mono BS.out.size))
     have hkn0:k < n:=by omega
     have hk1w:IntKind.i64.wrap ((k:Int)+1)=(k:Int)+1:=IntWalk.i64_in _ (by omega)
     have hk1p:(0:Int)≤(k:Int)+1:=by omega
     have hk1n:((k:Int)+1).toNat=k+1:=by omega
     have hk1c:decide ((k:Int)+1 < 0)=false:=decide_eq_false (by omega)
     refine' reg_kill [(16,15)] [eqV _,eqV _,eqV _,eqV _,eqV _,eqV _,eqV _,eqV _,eqV _,eqV _,eqV _,eqV _,eqV _,eqV _,eqV _,(fun v z=>∃ g,v=Value.slice (some ⟨g,0,none⟩) 1 1∧z.heap[g]?=some (.cells #[.int .i64 x,.int .i64 y,.int .i64 fx] 110 (0,0))),(fun v z=>OwnsS Rg.cells 3 110 z w.heap.size v ((l ++ [⟨zl,zh,zp⟩]) ++ [⟨x,y,fx⟩])),(fun v z=>OwnsS Rg.cells 3 110 z w.heap.size v ((l ++ [⟨zl,zh,zp⟩]) ++ [⟨x,y,fx⟩]))] [(16,fun _ z=>Below w.heap.size w z)] [(4,fun z=>Below wS.heap.size wS z),(9,fun z=>Below wS.heap.size wS z),(13,fun z=>Below wS.heap.size wS z),(15,fun z=>Below wS.heap.size wS z),(16,fun z=>Below w.heap.size w z∧OwnsS Rg.cells 3 110 z w.heap.size (.slice (some ⟨g,0,none⟩) (mm+1) cj) (l ++ [⟨zl,zh,zp⟩])),(18,fun z=>Below w.heap.size w z)] [60,61,62,63,64,65,66,67,68,69,70,71,72,73,74,75,76,5] [[],[],[],[1,2],[3],[],[],[6],[5,7],[8],[],[],[10,11],[12],[4,9,13],[14],[0,15],[16]] [0,1,2,3,4,5,6,7,8,9,10,11,12,13,14,15,16,17] 18 (by kernel_rfl) (by kernel_rfl) ⟨eS _,eS _,eS _,eS _,eS _,eS _,eS _,eS _,eS _,eS _,eS _,eS _,eS _,eS _,eS _,fun _ _ _ ⟨g,e,p⟩ b=>⟨g,e,row_keep p b⟩,fun _ _ _ p b=>OwnsS.below p b,fun _ _ _ p b=>OwnsS.below p b,trivial⟩ ⟨⟨.inl (eS _),.inl (eS _),.inl (eS _),.inl (eS _),.inl (eS _),.inl (eS _),.inl (eS _),.inl (eS _),.inl (eS _),.inl (eS _),.inl (eS _),.inl (eS _),.inl (eS _),.inl (eS _),.inl (eS _),.inr (.inr (.inr (by kernel_rfl))),.inr (.inr (.inl rfl)),.inr (.inl (by kernel_rfl)),trivial⟩,trivial⟩ ⟨fun _ _ p b=>p.trans (b.mono p.size),fun _ _ p b=>p.trans (b.mono p.size),fun _ _ p b=>p.trans (b.mono p.size),fun _ _ p b=>p.trans (b.mono p.size),fun _ _ p b=>⟨p.1.trans (b.mono p.1.size),p.2.below b⟩,fun _ _ p b=>p.trans (b.mono p.size),trivial⟩ ⟨⟨.inr (.inl (by kernel_rfl)),.inr (.inl (by kernel_rfl)),.inr (.inl (by kernel_rfl)),.inr (.inl (by kernel_rfl)),.inr (.inr rfl),.inl (fun _ _ _ g=>g),trivial⟩,trivial⟩ ⟨(Below.refl wS.heap.size wS).drew,(Below.refl wS.heap.size wS).drew,(Below.refl wS.heap.size wS).drew,(Below.refl wS.heap.size wS).drew,⟨BS.out.drew,XS.out⟩,BS.out.drew,trivial⟩ 78 rfl (by kernel_rfl) (by kernel_rfl) rfl rfl 18 rfl ?q3obl ?q3fin
     case q3obl=>
      refine ⟨?q3o0,?q3o1,?q3o2,?q3o3,?q3o4,?q3o5,?q3o6,?q3o7,?q3o8,?q3o9,?q3o10,?q3o11,?q3o12,?q3o13,?q3o14,?q3o15,?q3o16,?q3o17,trivial⟩
      case q3o0 | q3o1 | q3o2 | q3o5 | q3o6 | q3o10 | q3o11=>
       intro w1 hI;refine t2o (by rfl) ?_;intro K hK;go_simp;refine hK _ _ ⟨rfl,Kept.refl _,?_⟩;show _=_;simp only [gv1];rfl
      case q3o3=>
       intro w1 hI;intro va ha;change _=_ at ha;subst va;intro vb hb;change _=_ at hb;subst vb;refine t2o (by rfl) ?_;intro K hK;simp only [gv2];go_simp;refine hK _ _ ⟨rfl,Kept.refl _,?_⟩;show _=_;simp only [gv1];rfl
      case q3o4=>
       intro w1 hI
       replace hI:(fun z=>Below wS.heap.size wS z) w1:=hI
       intro v3 h3;change _=_ at h3;subst v3;refine t2o (by rfl) ?_;intro K hK;simp only [gv2]
       obtain ⟨cx0,cy0,cp0⟩:=HC3.out w1 hI
       go_simp;refine hK _ _ ⟨rfl,Kept.refl _,?_⟩;show _=_;simp only [gv1];rfl
      case q3o7=>
       intro w1 hI;intro va ha;change _=_ at ha;subst va;refine t2o (by rfl) ?_;intro K hK;simp only [gv2];go_simp;refine hK _ _ ⟨rfl,Kept.refl _,?_⟩;show _=_;simp only [gv1];rfl
      case q3o8=>
       intro w1 hI;intro va ha;change _=_ at ha;subst va;intro vb hb;change _=_ at hb;subst vb;refine t2o (by rfl) ?_;intro K hK;simp only [gv2];go_simp;refine hK _ _ ⟨rfl,Kept.refl _,?_⟩;show _=_;simp only [gv1];rfl
      case q3o9=>
       intro w1 hI
       replace hI:(fun z=>Below wS.heap.size wS z) w1:=hI
       intro v8 h8;change _=_ at h8;subst v8;refine t2o (by rfl) ?_;intro K hK;simp only [gv2]
       obtain ⟨cx0,cy0,cp0⟩:=HC3.out w1 hI
       go_simp;refine hK _ _ ⟨rfl,Kept.refl _,?_⟩;show _=_;simp only [gv1];rfl
      case q3o12=>
       intro w1 hI;intro va ha;change _=_ at ha;subst va;intro vb hb;change _=_ at hb;subst vb;refine t2o (by rfl) ?_;intro K hK;simp only [gv2];go_simp;refine hK _ _ ⟨rfl,Kept.refl _,?_⟩;show _=_;simp only [gv1];rfl
      case q3o13=>
       intro w1 hI
       replace hI:(fun z=>Below wS.heap.size wS z) w1:=hI
       intro v12 h12;change _=_ at h12;subst v12;refine t2o (by rfl) ?_;intro K hK;simp only [gv2]
       obtain ⟨cx0,cy0,cp0⟩:=HC3.out w1 hI
       go_simp;refine hK _ _ ⟨rfl,Kept.refl _,?_⟩;show _=_;simp only [gv1];rfl
      case q3o14=>
       intro w1 hI;intro va ha;change _=_ at ha;subst va;intro vb hb;change _=_ at hb;subst vb;intro vc hc;change _=_ at hc;subst vc;refine t2o (by rfl) ?_;intro K hK;simp only [gv2];go_simp;refine hK _ _ ⟨rfl,Kept.refl _,?_⟩;show _=_;simp only [gv1];rfl
      case q3o15=>
       intro w1 hI
       replace hI:(fun z=>Below wS.heap.size wS z) w1:=hI
       intro v14 h14;change _=_ at h14;subst v14;refine t2o (by rfl) ?_;intro K hK;simp only [gv2];go_simp
       refine hK _ _ ⟨rfl,below_a _ _,?_⟩
       show ∃ g,_=Value.slice (some ⟨g,0,none⟩) 1 1∧_
       simp only [gv1]
       exact ⟨_,rfl,heap_alloc_new _ _⟩
      case q3o16=>
       intro w1 hI
       replace hI:(fun z=>Below w.heap.size w z∧OwnsS Rg.cells 3 110 z w.heap.size (.slice (some ⟨g,0,none⟩) (mm+1) cj) (l ++ [⟨zl,zh,zp⟩])) w1:=hI
       intro v0 h0;change _=_ at h0;subst v0;intro v15 h15
       obtain ⟨g15,rfl,h15⟩:=h15
       refine t2o (by rfl) ?_;intro K hK;simp only [gv2]
       refine wp_appS_one rgC Tryz.underlying77 rgI rfl (by decide) 76 rfl (.tmp 60) (.tmp 75) rfl w.heap.size (.slice (some ⟨g,0,none⟩) (mm+1) cj) (l ++ [⟨zl,zh,zp⟩]) rfl hI.2 g15 1 ⟨x,y,fx⟩ rfl h15 HJL.out hI.1.size ?_
       intro v9 w9 ho9 hg9
       refine hK _ _ ⟨rfl,Below.grown hI.1 hg9.1 hI.1.size (fun z e=>(hI.2.at_base z e).1),?_⟩
       show OwnsS _ _ _ _ _ _ _
       simp only [gv1]
       exact ho9
      case q3o17=>
       intro w1 hI;intro v16 h16;refine t2o (by rfl) ?_;intro K hK;simp only [gv2];go_simp;refine hK _ _ ⟨rfl,Kept.refl _,?_⟩
       show OwnsS _ _ _ _ _ _ _
       simp only [gv1]
       exact h16
     intro w1 hI
     replace hI:(fun z=>Below w.heap.size w z) w1:=hI
     intro v0 h0;replace h0:=h0 (by kernel_rfl);change _=_ at h0;subst v0;intro v1 h1;replace h1:=h1 (by kernel_rfl);change _=_ at h1;subst v1;intro v2 h2;replace h2:=h2 (by kernel_rfl);change _=_ at h2;subst v2;intro v3 h3;replace h3:=h3 (by kernel_rfl);change _=_ at h3;subst v3;intro v4 h4;replace h4:=h4 (by kernel_rfl);change _=_ at h4;subst v4;intro v5 h5
     replace h5:=h5 (by kernel_rfl);change _=_ at h5;subst v5;intro v6 h6;replace h6:=h6 (by kernel_rfl);change _=_ at h6;subst v6;intro v7 h7;replace h7:=h7 (by kernel_rfl);change _=_ at h7;subst v7;intro v8 h8;replace h8:=h8 (by kernel_rfl);change _=_ at h8;subst v8;intro v9 h9;replace h9:=h9 (by kernel_rfl);change _=_ at h9;subst v9;intro v10 h10;replace h10:=h10 (by kernel_rfl)
     change _=_ at h10;subst v10;intro v11 h11;replace h11:=h11 (by kernel_rfl);change _=_ at h11;subst v11;intro v12 h12;replace h12:=h12 (by kernel_rfl);change _=_ at h12;subst v12;intro v13 h13;replace h13:=h13 (by kernel_rfl);change _=_ at h13;subst v13;intro v14 h14;replace h14:=h14 (by kernel_rfl);change _=_ at h14;subst v14;intro v15 _;intro v16 h16;replace h16:=h16 (by kernel_rfl)
     intro v17 h17;replace h17:=h17 (by kernel_rfl)
     simp only [Given,gv2]
     clear hk1w hk1p hk1n hk1c hkn0
     go_wp2
     go_roundw
     case rel=>exact ⟨k+1,by omega,by go_num,by rw [HE.out];exact h17,hI⟩
     case measure=>simp [intOf] <;> omega
  ·have hl:=HA.out.len
   have e:A.take (k+1)=A:=List.take_of_length_le (by omega)
   rw [e] at X
   have hkci:decide ((k:Int)+1 < (n:Int))=false:=decide_eq_false (by omega)
   have hkb:(k:Int)≤3000:=by omega
   clear hl e
   go_wp2
   go_ret
   exact ⟨_,rfl,X.out,B.out⟩
end Go.Proofs.YtoepnbfifjgpfaaGreat
