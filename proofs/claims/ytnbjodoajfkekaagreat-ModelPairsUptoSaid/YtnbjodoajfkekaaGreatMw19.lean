/- The walk of almanaclaw18.ModelPairs. ModelPairs: for every input the law returns true, and every argument reads as it did: the row round the walk. -/
import Derived.Test.YtnbjodoajfkekaaGreatMw16
import Derived.Test.YtnbjodoajfkekaaGreatMw18
import Derived.Test.YtnbjodoajfkekaaGreatMw11
import Derived.Test.YtnbjodoajfkekaaGreatMw12
import Derived.Test.YtnbjodoajfkekaaGreatMv25
import Derived.WalkKit
import Derived.ProofKit
import Derived.BigQuiet
import Derived.Deep.QuietTactic
import Derived.Lib.Hide
import Derived.RegionTactic
import Derived.JoinedCond
import Derived.Test.YtnbjodoajfkekaaGreatMv24
import Derived.Test.YtnbjodoajfkekaaGreatRows
import Derived.OpenShut
import Derived.ShutString
import Derived.ChangeOld
import Derived.Below
namespace Go.Proofs.YtnbjodoajfkekaaGreat
set_option maxRecDepth 100000
open Go.RowKit
set_option linter.unusedSimpArgs false
theorem Ptys.start {w0 w4 w5:World} {hh:McH} {hr:RmH} {c:Cf} {O:List OpsR} (hO:∀ o ∈ O,OpsAt w0 o.a o.n o.L) (b4:Below w0.heap.size w0 w4) (m:McIn w4 hh.own hh (mc0 c)) (hmo:∀ k,hh.own k→w0.heap.size≤k)
  (b5:Below w4.heap.size w4 w5) (r:RmIn w5 (hr.own (mc0 c)) hr (mc0 c)) (ho:∀ k,hr.own (mc0 c) k→w4.heap.size≤k) (hm:w4.heap.size≤hr.m):∃ hr2:RmH,hr2.m=hr.m∧Ptys w0 w5 [mcP hh (mc0 c),rmP hr2 (mc0 c)] O:=by
 have h0:OpsAt w0 none 0 []:=⟨rfl,fun i A hA=>by cases hA⟩
 obtain ⟨⟨No,hr2,mi,ri,hrm,dj,_,hno⟩,bel⟩:=PlS.start h0 b4 m hmo b5 r ho hm
 refine ⟨hr2,hrm,⟨No,fun i P hP=>?_,fun o ho2=>(OpsIn.of (hO o ho2) hno).tn (Tn.of (Q:=fun _=>False) bel) (fun _ h=>h.elim),hno,mi.lt⟩,fun i j P Q hne hP hQ k hk hk2=>?_,bel⟩
 ·match i,hP with
  | 0,hP=>injection hP with hP;rw [← hP];exact mi
  | 1,hP=>injection hP with hP;rw [← hP];exact ri
 ·match i,j,hP,hQ with
  | 0,0,_,_=>exact hne rfl
  | 1,1,_,_=>exact hne rfl
  | 0,1,hP,hQ=>
   injection hP with hP
   injection hQ with hQ
   rw [← hP] at hk;rw [← hQ] at hk2
   exact dj k hk hk2
  | 1,0,hP,hQ=>
   injection hP with hP
   injection hQ with hQ
   rw [← hP] at hk;rw [← hQ] at hk2
   exact dj k hk2 hk
set_option maxHeartbeats 4000000 in
theorem modelPairs_walk (c:Cf) (a:Option Addr) (n cap:Nat) (L:List OpP) (a1:Option Addr) (n1 cap1:Nat) (LA:List OpP) (a2:Option Addr) (n2 cap2:Nat) (LB:List OpP) (w:World) (hL:OpsAt w a n L) (hs:sumOp L+n≤1048576) (hLA:OpsAt w a1 n1 LA) (hsA:sumOp LA+n1≤1048576) (hLB:OpsAt w a2 n2 LB) (hsB:sumOp LB+n2≤1048576) :
  Calls Tryz.prog 5 #[c.val,.slice a n cap,.slice a1 n1 cap1,.slice a2 n2 cap2] w fun e w'=>e = .returned (.bool true)∧Below w.heap.size w w':=by
 have hb0:=below_a w (.cells #[.int .i64 c.a0,.int .i64 c.a1,.int .i64 c.a2,.int .i64 c.a3,.int .i64 c.page,.int .i64 c.a5,.int .i64 c.procs,.int .i64 c.regions,.int .i64 c.pages] 23)
 have g0:=heap_alloc_new w (.cells #[.int .i64 c.a0,.int .i64 c.a1,.int .i64 c.a2,.int .i64 c.a3,.int .i64 c.page,.int .i64 c.a5,.int .i64 c.procs,.int .i64 c.regions,.int .i64 c.pages] 23)
 have HB0:=Lib.hid hb0;have HL:=Lib.hid hL;have HS:=Lib.hid hs;have HLA:=Lib.hid hLA;have HSA:=Lib.hid hsA;have HLB:=Lib.hid hLB;have HSB:=Lib.hid hsB
 have HK:=Lib.hid (known18 (w.alloc (.cells #[.int .i64 c.a0,.int .i64 c.a1,.int .i64 c.a2,.int .i64 c.a3,.int .i64 c.page,.int .i64 c.a5,.int .i64 c.procs,.int .i64 c.regions,.int .i64 c.pages] 23)))
 have HG0:=Lib.hid g0
 unfold Cf.val
 clear hb0 hL hs hLA hsA hLB hsB g0
 go_enter Tryz.func5,Tryz.ntmps5
 go_wp2_with fail
 refine HK.out.mono ?_
 rintro e w1 ⟨rfl,hb1⟩
 have HB1:=Lib.hid (Below.call HB0.out hb1)
 have HC1:=Lib.hid (row_keep HG0.out hb1)
 clear hb1 HK
 have hcf:=few_any a n cap L w1 (OpsAt.below HL.out HB1.out) (by have:=HS.out;omega) (by have:=HS.out;omega)
 have HF:=Lib.hid hcf;clear hcf;go_wp2_with fail
 refine HF.out.mono ?_
 rintro e w1' ⟨rfl,rfl⟩
 clear HF
 cases hf0:fewB L with
 | false=>
  go_wp2
  go_ret
  exact ⟨rfl,HB1.out⟩
 | true=>
  have hcf:=few_any a1 n1 cap1 LA w1 (OpsAt.below HLA.out HB1.out) (by have:=HSA.out;omega) (by have:=HSA.out;omega)
  have HF:=Lib.hid hcf;clear hcf;go_wp2_with fail
  refine HF.out.mono ?_
  rintro e w1' ⟨rfl,rfl⟩
  clear HF
  cases hf1:fewB LA with
  | false=>
   go_wp2
   go_ret
   exact ⟨rfl,HB1.out⟩
  | true=>
   have hcf:=few_any a2 n2 cap2 LB w1 (OpsAt.below HLB.out HB1.out) (by have:=HSB.out;omega) (by have:=HSB.out;omega)
   have HF:=Lib.hid hcf;clear hcf;go_wp2_with fail
   refine HF.out.mono ?_
   rintro e w1' ⟨rfl,rfl⟩
   clear HF
   cases hf2:fewB LB with
   | false=>
    go_wp2
    go_ret
    exact ⟨rfl,HB1.out⟩
   | true=>
    obtain ⟨z0,z1,z2,z3,z4,z5,z6,z7,z8⟩:=cells9 HC1.out
    have hcs:=small_any c w1
    unfold Cf.val at hcs
    have HSM:=Lib.hid hcs;clear hcs;go_wp2_with fail
    refine HSM.out.mono ?_
    rintro e w3 ⟨rfl,hb3⟩
    have HB3:=Lib.hid (Below.call HB1.out hb3)
    have HC3:=Lib.hid (row_keep HC1.out hb3)
    clear hb3 HSM z0 z1 z2 z3 z4 z5 z6 z7 z8
    cases hsm:smallB c with
    | false=>
     go_wp2
     go_ret
     exact ⟨rfl,HB3.out⟩
    | true=>
     obtain ⟨z0,z1,z2,z3,z4,z5,z6,z7,z8⟩:=cells9 HC3.out
     by_cases hok:CfOk c
     ·have hnw:=newmc_yes c w3 hok
      unfold Cf.val at hnw
      have HNW:=Lib.hid hnw;clear hnw;go_wp2_with fail
      refine HNW.out.mono ?_
      rintro e w4 ⟨hm,rfl,hm4,hown,hhm,hb4⟩
      have hrw:=rnew18_yes c w4 hok
      unfold Cf.val at hrw
      have HRW:=Lib.hid hrw
      have HC4:=Lib.hid (row_keep HC3.out hb4)
      clear hrw z0 z1 z2 z3 z4 z5 z6 z7 z8
      obtain ⟨z0,z1,z2,z3,z4,z5,z6,z7,z8⟩:=cells9 HC4.out
      go_wp2_with fail
      refine HRW.out.mono ?_
      rintro e w5 ⟨hr,rfl,hr5,hro,hrm,hb5⟩
      obtain ⟨rm,hrmE⟩:∃ y,hr.m=y:=⟨_,rfl⟩
      have hOO:∀ o ∈ ([⟨a,n,L⟩,⟨a1,n1,LA⟩,⟨a2,n2,LB⟩]:List OpsR),OpsAt w o.a o.n o.L:=fun o ho=>by
       simp only [List.mem_cons,List.not_mem_nil,or_false] at ho
       rcases ho with rfl | rfl | rfl
       ·exact HL.out
       ·exact HLA.out
       ·exact HLB.out
      obtain ⟨hr1,hr1m,hps⟩:=Ptys.start hOO (Below.call HB3.out hb4) hm4 (fun k hk=>Nat.le_trans HB3.out.size (hown k hk)) hb5 hr5 hro hrm
      rw [hrmE] at hr1m ⊢
      obtain ⟨O,hO⟩:∃ y,([⟨a,n,L⟩,⟨a1,n1,LA⟩,⟨a2,n2,LB⟩]:List OpsR)=y:=⟨_,rfl⟩
      rw [hO] at hps
      have hm0:(⟨a,n,L⟩:OpsR) ∈ O:=by rw [← hO];simp
      have hm1:(⟨a1,n1,LA⟩:OpsR) ∈ O:=by rw [← hO];simp
      have hm2:(⟨a2,n2,LB⟩:OpsR) ∈ O:=by rw [← hO];simp
      have HM0:=Lib.hid hm0;have HM1:=Lib.hid hm1;have HM2:=Lib.hid hm2
      have hbig:∀ X:List OpP,fewB X=true→X.length≤200:=fun X hX=>by unfold fewB at hX;simp at hX;omega
      have hn0:n≤1000:=by have h1:=HL.out.len;have h2:=hbig L hf0;omega
      have hn1:n1≤1000:=by have h1:=HLA.out.len;have h2:=hbig LA hf1;omega
      have hn2:n2≤1000:=by have h1:=HLB.out.len;have h2:=hbig LB hf2;omega
      have HLN:=Lib.hid HL.out.len;have HLNA:=Lib.hid HLA.out.len;have HLNB:=Lib.hid HLB.out.len
      have HRUN:=Lib.hid (hps.run 0 (h:=hm) (st:=mc0 c) rfl (c:=cap) hm0 hn0)
      have HR1M:=Lib.hid hr1m;clear hOO hps hO hm0 hm1 hm2 hbig hr1m hm4 hown hhm hb4 hr5 hro hrm hb5 hrmE HNW HRW z0 z1 z2 z3 z4 z5 z6 z7 z8;go_wp2_with fail
      refine HRUN.out.mono ?_
      rintro e w6 ⟨v6,rfl,hs6⟩
      clear HRUN
      obtain ⟨S,hS⟩:∃ y,runM (mc0 c) L=y:=⟨_,rfl⟩
      have HSE:=Lib.hid hS
      have hs6b:Ptys w w6 [mcP hm S,rmP hr1 (runM (mc0 c) (L.take 0))] O:=by rw [← hS];exact hs6
      have HS6:=Lib.hid hs6b;clear hs6 hs6b hS;go_wp2_with fail
      go_loopw [13] (fun i wr=>∃ (k:Nat) (hx:RmH),k≤n∧i = .int .i64 k∧Hid (hx.m=rm∧Ptys w wr [mcP hm S,rmP hx (runM (mc0 c) (L.take k))] O)) (fun i _=>n - (intOf i).toNat)
      case atStart=>exact ⟨0,hr1,by omega,rfl,HR1M.out,HS6.out⟩
      case round=>
       obtain ⟨k,hx,hk,rfl,hh⟩:=hrel
       obtain ⟨hxm,hps⟩:=hh.out
       have HXM:=Lib.hid hxm;have HPS:=Lib.hid hps;clear hh hxm hps
       by_cases hkn:k < n
       ·obtain ⟨A,hA⟩:∃ A,L[k]?=some A:=⟨_,List.getElem?_eq_getElem (by rw [HLN.out];exact hkn)⟩
        have hstep:runM (mc0 c) (L.take (k+1))=stepM (runM (mc0 c) (L.take k)) A.o:=by rw [take_snoc hA];exact runM_snoc _ _ _
        have HSTEP:=Lib.hid hstep
        obtain ⟨b,o,ta,tn,tc,ha,y0,y1,y2,y3,y4,y5⟩:=HPS.out.opAt HM0.out hA
        have hdo:=HPS.out.rdo 1 (h:=hx) (st:=runM (mc0 c) (L.take k)) rfl HM0.out hA y5 ha
        rw [HXM.out] at hdo;have HDO:=Lib.hid hdo;subst ha
        have hcapk:(n:Int)≤1000:=by omega
        clear hA hstep hdo;go_wp2_with fail
        refine HDO.out.mono ?_
        rintro e w9 ⟨v9,rfl,h9,hm9,hs9⟩
        have HM9:=Lib.hid hm9
        have hs9b:Ptys w w9 [mcP hm S,rmP h9 (runM (mc0 c) (L.take (k+1)))] O:=by rw [HSTEP.out];exact hs9
        have HS9:=Lib.hid hs9b;clear hm9 hs9 hs9b HDO;go_wp2_with fail
        go_roundw
        case rel=>exact ⟨k+1,h9,by omega,by go_num,HM9.out,HS9.out⟩
        case measure=>simp [intOf] <;> omega
       ·obtain rfl:k=n:=by omega
        have htk:L.take k=L:=List.take_of_length_le (by rw [HLN.out];exact Nat.le_refl _)
        have hps:=HPS.out
        rw [htk] at hps
        obtain ⟨wE1,hwE⟩:∃ y:World,y=wr:=⟨_,rfl⟩
        subst hwE
        obtain ⟨hx1,hhx⟩:∃ y:RmH,y=hx:=⟨_,rfl⟩
        subst hhx;have HX1:=Lib.hid HXM.out;rw [HSE.out] at hps
        have HTW:=Lib.hid (hps.twinM 0 (h:=hm) (st:=S) rfl)
        clear HPS HXM htk hps;go_wp2_with fail
        refine HTW.out.mono ?_
        rintro e w7 ⟨ht,rfl,hs7⟩
        have hs7b:Ptys w w7 [mcP hm S,rmP hx1 S,mcP ht S] O:=hs7
        have htu:=hs7b.twinR 1 (h:=hx1) (st:=S) rfl
        rw [HX1.out] at htu;have HTU:=Lib.hid htu;clear hs7 hs7b htu HTW;go_wp2_with fail
        refine HTU.out.mono ?_
        rintro e w8 ⟨hu,rfl,hs8⟩
        have hs8b:Ptys w w8 [mcP hm S,rmP hx1 S,mcP ht S,rmP hu S] O:=hs8
        have HS8:=Lib.hid hs8b;clear hs8 hs8b HTU
        obtain ⟨um,hum⟩:∃ y,hu.m=y:=⟨_,rfl⟩
        rw [hum];have HUM:=Lib.hid hum;clear hum
        obtain ⟨No8,m1,m2⟩:=HS8.out.mcOf (i:=0) (j:=2) (h:=hm) (h2:=ht) (st:=S) (st2:=S) rfl rfl
        have HSAM:=Lib.hid (same_any m1 m2)
        clear m1 m2;go_wp2_with fail
        refine HSAM.out.mono ?_
        rintro e w9 ⟨bb,rfl,hbb,hb9⟩
        obtain rfl:bb=true:=hbb.2 (SameP.refl S)
        have HS9:=Lib.hid (HS8.out.below hb9)
        clear hbb hb9 HSAM
        obtain ⟨No9,m1,m2⟩:=HS9.out.mcOf (i:=0) (j:=2) (h:=hm) (h2:=ht) (st:=S) (st2:=S) rfl rfl
        have hdl:=delta_any m1 m2
        rw [deltaM_self m1.ok] at hdl;have HDL:=Lib.hid hdl;clear m1 m2 hdl;go_wp2_with fail
        refine HDL.out.mono ?_
        rintro e w10 ⟨rfl,hb10⟩
        have HS10:=Lib.hid (HS9.out.below hb10)
        clear hb10 HDL
        have HR2:=Lib.hid (HS10.out.run 0 (h:=hm) (st:=S) rfl (c:=cap1) HM1.out hn1)
        go_wp2_with fail
        refine HR2.out.mono ?_
        rintro e w11 ⟨v11,rfl,hs11⟩
        have hs11b:Ptys w w11 [mcP hm (runM S LA),rmP hx1 S,mcP ht S,rmP hu S] O:=hs11
        have HR3:=Lib.hid (hs11b.run 2 (h:=ht) (st:=S) rfl (c:=cap2) HM2.out hn2)
        clear hs11 hs11b HR2;go_wp2_with fail
        refine HR3.out.mono ?_
        rintro e w12 ⟨v12,rfl,hs12⟩
        obtain ⟨SA,hSA⟩:∃ y,runM S LA=y:=⟨_,rfl⟩
        obtain ⟨SB,hSB⟩:∃ y,runM S LB=y:=⟨_,rfl⟩
        have HSAE:=Lib.hid hSA;have HSBE:=Lib.hid hSB
        have hs12b:Ptys w w12 [mcP hm SA,rmP hx1 (runM S (LA.take 0)),mcP ht SB,rmP hu S] O:=by rw [← hSA,← hSB];exact hs12
        have HS12:=Lib.hid hs12b;clear hs12 hs12b hSA hSB HR3;go_wp2_with fail
        go_loopw [16] (fun i wr=>∃ (k:Nat) (hx:RmH),k≤n1∧i = .int .i64 k∧Hid (hx.m=rm∧Ptys w wr [mcP hm SA,rmP hx (runM S (LA.take k)),mcP ht SB,rmP hu S] O)) (fun i _=>n1 - (intOf i).toNat)
        case atStart=>exact ⟨0,hx1,by omega,rfl,HX1.out,HS12.out⟩
        case round=>
         obtain ⟨k,hx,hk,rfl,hh⟩:=hrel
         obtain ⟨hxm,hps⟩:=hh.out
         have HXM:=Lib.hid hxm;have HPS:=Lib.hid hps;clear hh hxm hps
         by_cases hkn:k < n1
         ·obtain ⟨A,hA⟩:∃ A,LA[k]?=some A:=⟨_,List.getElem?_eq_getElem (by rw [HLNA.out];exact hkn)⟩
          have hstep:runM S (LA.take (k+1))=stepM (runM S (LA.take k)) A.o:=by rw [take_snoc hA];exact runM_snoc _ _ _
          have HSTEP:=Lib.hid hstep
          obtain ⟨b,o,ta,tn,tc,ha,y0,y1,y2,y3,y4,y5⟩:=HPS.out.opAt HM1.out hA
          have hdo:=HPS.out.rdo 1 (h:=hx) (st:=runM S (LA.take k)) rfl HM1.out hA y5 ha
          rw [HXM.out] at hdo;have HDO:=Lib.hid hdo;subst ha
          have hcapk:(n1:Int)≤1000:=by omega
          clear hA hstep hdo;go_wp2_with fail
          refine HDO.out.mono ?_
          rintro e w9 ⟨v9,rfl,h9,hm9,hs9⟩
          have HM9:=Lib.hid hm9
          have hs9b:Ptys w w9 [mcP hm SA,rmP h9 (runM S (LA.take (k+1))),mcP ht SB,rmP hu S] O:=by rw [HSTEP.out];exact hs9
          have HS9:=Lib.hid hs9b;clear hm9 hs9 hs9b HDO;go_wp2_with fail
          go_roundw
          case rel=>exact ⟨k+1,h9,by omega,by go_num,HM9.out,HS9.out⟩
          case measure=>simp [intOf] <;> omega
         ·obtain rfl:k=n1:=by omega
          have htk:LA.take k=LA:=List.take_of_length_le (by rw [HLNA.out];exact Nat.le_refl _)
          have hps:=HPS.out
          rw [htk] at hps
          obtain ⟨wE2,hwE⟩:∃ y:World,y=wr:=⟨_,rfl⟩
          subst hwE
          obtain ⟨hx2,hhx⟩:∃ y:RmH,y=hx:=⟨_,rfl⟩
          subst hhx;have HX2:=Lib.hid HXM.out;rw [HSAE.out] at hps
          have hps0:Ptys w wE2 [mcP hm SA,rmP hx2 SA,mcP ht SB,rmP hu (runM S (LB.take 0))] O:=hps
          have HPS0:=Lib.hid hps0;clear HPS HXM htk hps hps0;go_wp2_with fail
          go_loopw [17] (fun i wr=>∃ (k:Nat) (hx:RmH),k≤n2∧i = .int .i64 k∧Hid (hx.m=um∧Ptys w wr [mcP hm SA,rmP hx2 SA,mcP ht SB,rmP hx (runM S (LB.take k))] O)) (fun i _=>n2 - (intOf i).toNat)
          case atStart=>exact ⟨0,hu,by omega,rfl,HUM.out,HPS0.out⟩
          case round=>
           obtain ⟨k,hx,hk,rfl,hh⟩:=hrel
           obtain ⟨hxm,hps⟩:=hh.out
           have HXM:=Lib.hid hxm;have HPS:=Lib.hid hps;clear hh hxm hps
           by_cases hkn:k < n2
           ·obtain ⟨A,hA⟩:∃ A,LB[k]?=some A:=⟨_,List.getElem?_eq_getElem (by rw [HLNB.out];exact hkn)⟩
            have hstep:runM S (LB.take (k+1))=stepM (runM S (LB.take k)) A.o:=by rw [take_snoc hA];exact runM_snoc _ _ _
            have HSTEP:=Lib.hid hstep
            obtain ⟨b,o,ta,tn,tc,ha,y0,y1,y2,y3,y4,y5⟩:=HPS.out.opAt HM2.out hA
            have hdo:=HPS.out.rdo 3 (h:=hx) (st:=runM S (LB.take k)) rfl HM2.out hA y5 ha
            rw [HXM.out] at hdo;have HDO:=Lib.hid hdo;subst ha
            have hcapk:(n2:Int)≤1000:=by omega
            clear hA hstep hdo;go_wp2_with fail
            refine HDO.out.mono ?_
            rintro e w9 ⟨v9,rfl,h9,hm9,hs9⟩
            have HM9:=Lib.hid hm9
            have hs9b:Ptys w w9 [mcP hm SA,rmP hx2 SA,mcP ht SB,rmP h9 (runM S (LB.take (k+1)))] O:=by rw [HSTEP.out];exact hs9
            have HS9:=Lib.hid hs9b;clear hm9 hs9 hs9b HDO;go_wp2_with fail
            go_roundw
            case rel=>exact ⟨k+1,h9,by omega,by go_num,HM9.out,HS9.out⟩
            case measure=>simp [intOf] <;> omega
           ·obtain rfl:k=n2:=by omega
            have htk:LB.take k=LB:=List.take_of_length_le (by rw [HLNB.out];exact Nat.le_refl _)
            have hps:=HPS.out
            rw [htk] at hps
            obtain ⟨wE3,hwE⟩:∃ y:World,y=wr:=⟨_,rfl⟩
            subst hwE
            obtain ⟨hx3,hhx⟩:∃ y:RmH,y=hx:=⟨_,rfl⟩
            subst hhx;have HX3:=Lib.hid HXM.out;rw [HSBE.out] at hps;have HE:=Lib.hid hps
            have hcc:SA.c=SB.c:=by rw [← HSAE.out,← HSBE.out,runM_c,runM_c]
            have HCC:=Lib.hid hcc;clear HPS HXM htk hps hcc
            obtain ⟨NoX,m1,m2⟩:=HE.out.mcOf (i:=0) (j:=2) (h:=hm) (h2:=ht) (st:=SA) (st2:=SB) rfl rfl
            have HCL:=Lib.hid (same_any m1 m2)
            clear m1 m2;go_wp2_with fail
            refine HCL.out.mono ?_
            rintro e wq0 ⟨bb1,rfl,hbb1,hbq⟩
            have HE0:=Lib.hid (HE.out.below hbq)
            clear hbq HCL
            obtain ⟨NoX,r1,r2⟩:=HE0.out.rmOf (i:=1) (j:=3) (h:=hx2) (h2:=hx3) (st:=SA) (st2:=SB) rfl rfl
            have hcl:=rsame18_any r1 r2 HCC.out
            rw [HX2.out,HX3.out] at hcl;have HCL:=Lib.hid hcl;clear r1 r2 hcl;go_wp2_with fail
            refine HCL.out.mono ?_
            rintro e wq1 ⟨bb2,rfl,hbb2,hbq⟩
            have HE1:=Lib.hid (HE0.out.below hbq)
            clear hbq HCL
            obtain rfl:bb2=bb1:=Bool.eq_iff_iff.2 (hbb2.trans hbb1.symm)
            clear hbb2 hbb1
            obtain ⟨NoX,m1,m2⟩:=HE1.out.mcOf (i:=2) (j:=0) (h:=ht) (h2:=hm) (st:=SB) (st2:=SA) rfl rfl
            have HCL:=Lib.hid (same_any m1 m2)
            clear m1 m2;go_wp2_with fail
            refine HCL.out.mono ?_
            rintro e wq2 ⟨bb3,rfl,hbb3,hbq⟩
            have HE2:=Lib.hid (HE1.out.below hbq)
            clear hbq HCL
            obtain ⟨NoX,r1,r2⟩:=HE2.out.rmOf (i:=3) (j:=1) (h:=hx3) (h2:=hx2) (st:=SB) (st2:=SA) rfl rfl
            have hcl:=rsame18_any r1 r2 HCC.out.symm
            rw [HX2.out,HX3.out] at hcl;have HCL:=Lib.hid hcl;clear r1 r2 hcl;go_wp2_with fail
            refine HCL.out.mono ?_
            rintro e wq3 ⟨bb4,rfl,hbb4,hbq⟩
            have HE3:=Lib.hid (HE2.out.below hbq)
            clear hbq HCL
            obtain rfl:bb4=bb3:=Bool.eq_iff_iff.2 (hbb4.trans hbb3.symm)
            clear hbb4 hbb3
            obtain ⟨NoX,m1,m2⟩:=HE3.out.mcOf (i:=0) (j:=2) (h:=hm) (h2:=ht) (st:=SA) (st2:=SB) rfl rfl
            have HCL:=Lib.hid (delta_any m1 m2)
            clear m1 m2;go_wp2_with fail
            refine HCL.out.mono ?_
            rintro e wf0 ⟨rfl,hbq⟩
            have HF0:=Lib.hid (HE3.out.below hbq)
            clear hbq HCL
            obtain ⟨NoX,r1,r2⟩:=HF0.out.rmOf (i:=1) (j:=3) (h:=hx2) (h2:=hx3) (st:=SA) (st2:=SB) rfl rfl
            have hcl:=rdelta_any r1 r2 HCC.out
            rw [HX2.out,HX3.out] at hcl;have HCL:=Lib.hid hcl;clear r1 r2 hcl;go_wp2_with fail
            refine HCL.out.mono ?_
            rintro e wf1 ⟨rfl,hbq⟩
            have HF1:=Lib.hid (HF0.out.below hbq)
            clear hbq HCL
            obtain ⟨NoX,m1,m2⟩:=HF1.out.mcOf (i:=2) (j:=0) (h:=ht) (h2:=hm) (st:=SB) (st2:=SA) rfl rfl
            have HCL:=Lib.hid (delta_any m1 m2)
            clear m1 m2;go_wp2_with fail
            refine HCL.out.mono ?_
            rintro e wf2 ⟨rfl,hbq⟩
            have HF2:=Lib.hid (HF1.out.below hbq)
            clear hbq HCL
            obtain ⟨NoX,r1,r2⟩:=HF2.out.rmOf (i:=3) (j:=1) (h:=hx3) (h2:=hx2) (st:=SB) (st2:=SA) rfl rfl
            have hcl:=rdelta_any r1 r2 HCC.out.symm
            rw [HX2.out,HX3.out] at hcl;have HCL:=Lib.hid hcl;clear r1 r2 hcl;go_wp2_with fail
            refine HCL.out.mono ?_
            rintro e wf3 ⟨rfl,hbq⟩
            have HF3:=Lib.hid (HF2.out.below hbq)
            clear hbq HCL
            go_wp2
            go_ret
            exact ⟨by simp,HF3.out.bel⟩
     ·have hnw:=newmc_no c w3 hok
      unfold Cf.val at hnw
      have HNW:=Lib.hid hnw;clear hnw;go_wp2_with fail
      refine HNW.out.mono ?_
      rintro e w4 ⟨rfl,hb4⟩
      have hrw:=rnew18_no c w4 hok
      unfold Cf.val at hrw
      have HRW:=Lib.hid hrw
      have HC4:=Lib.hid (row_keep HC3.out hb4)
      have HB4:=Lib.hid (Below.call HB3.out hb4)
      clear hrw hb4 z0 z1 z2 z3 z4 z5 z6 z7 z8
      obtain ⟨z0,z1,z2,z3,z4,z5,z6,z7,z8⟩:=cells9 HC4.out
      go_wp2_with fail
      refine HRW.out.mono ?_
      rintro e w5 ⟨rfl,hb5⟩
      have HB5:=Lib.hid (Below.call HB4.out hb5)
      clear hb5
      go_wp2
      go_ret
      exact ⟨rfl,HB5.out⟩
end Go.Proofs.YtnbjodoajfkekaaGreat

namespace Go.Proofs.YtnbjodoajfkekaaGreat.modelPairs
set_option maxRecDepth 100000
open Go.ChangeShapes Go.WideShapes Go.ChangeAt Go.RowKit
set_option linter.unusedVariables false

theorem own:ownKnob Tryz.prog.godebug=none:=by kernel_rfl
theorem laidOut:laidOutB Tryz.prog=true:=by kernel_rfl

theorem lifted (os:Os) (started:os.Started) (H:Type) (enc:TypeId × Value→H) (F:Stop.Interp) :
  ReturnsInHanded {} Tryz.checked os 5 .any ((Rows.OpenSpec.upto Rows.modelPairsSpec).pre6 enc Tryz.prog Tryz.f5 Rows.modelPairsUptoRow.domain false) (((Rows.OpenSpec.upto Rows.modelPairsSpec).at F).post enc Tryz.prog Tryz.f5 false true false false):=by
 refine returnsInHanded_of_cond (C:=Tryz.checked) (s:=Rows.OpenSpec.upto Rows.modelPairsSpec) (k:=Rows.uptoSmall) rfl own started (by kernel_rfl) Tryz.func5
  (OpenSpec.witness (enc:=enc) (C:=Tryz.checked) (s:=Rows.OpenSpec.upto Rows.modelPairsSpec) (k:=Rows.uptoSmall) rfl false ⟨#[],#[.agg #[.int .i64 0,.int .i64 0,.int .i64 0,.int .i64 0,.int .i64 0,.int .i64 0,.int .i64 0,.int .i64 0,.int .i64 0],.slice none 0 0,.slice none 0 0,.slice none 0 0],[]⟩ 8 (by kernel_rfl) (by kernel_rfl) (by kernel_rfl)
   (x:=([.agg [.lit (.int .i64 0),.lit (.int .i64 0),.lit (.int .i64 0),.lit (.int .i64 0),.lit (.int .i64 0),.lit (.int .i64 0),.lit (.int .i64 0),.lit (.int .i64 0),.lit (.int .i64 0)],.nil,.nil,.nil],[],[])) (by kernel_rfl) rfl (by kernel_rfl)) ?_
 intro W base args ds gs before hval0 hW hcnd hk _
 have hval:∀ (j:Nat) t v,Tryz.f5.params[j]?=some t→args[j]?=some v→Value.okWide Tryz.prog W .any base t v:=hval0
 have hW':=hW
 obtain ⟨p,q,hA0,hV,rfl,hfz,hnd⟩:=hW
 have hA:DataW.TrodAll enc Tryz.prog W 0 (fun _=>true) true Tryz.f5.params.toList args.toList ds p:=hA0
 rw [Tryz.params5] at hA hval
 obtain ⟨v0,vs0,d0,ds0,p0,q0,hargs,rfl,rfl,h0,r0⟩:=trodAll_cons hA
 obtain ⟨v1,vs1,d1,ds1,p1,q1,rfl,rfl,rfl,h1,r1⟩:=trodAll_cons r0
 obtain ⟨v2,vs2,d2,ds2,p2,q2,rfl,rfl,rfl,h2,r2⟩:=trodAll_cons r1
 obtain ⟨v3,vs3,d3,ds3,p3,q3,rfl,rfl,rfl,h3,r3⟩:=trodAll_cons r2
 obtain ⟨rfl,rfl,rfl⟩:=trodAll_nil r3
 obtain rfl:args = #[v0,v1,v2,v3]:=by cases args;simp_all
 obtain ⟨rfl,rfl⟩:=trodVars_none hV
 have k0:=h0
 have lt0:∀ x ∈ p0,x.block < W.heap.size:=by obtain ⟨m,hm⟩:=k0;exact DataW.trod_lt m _ _ _ hm
 obtain ⟨a0_0,a0_1,a0_2,a0_3,a0_4,a0_5,a0_6,a0_7,a0_8,rfl⟩:=open_nine Tryz.underlying23 (by kernel_rfl) (by kernel_rfl) Tryz.underlying3 (hval 0 23 v0 rfl rfl) h0
 obtain ⟨a1,len1,cap1,rfl⟩:=okWide_slice Tryz.underlying24 (hval 1 24 v1 rfl rfl)
 have k1:=h1
 have lt1:∀ x ∈ p1,x.block < W.heap.size:=by obtain ⟨m,hm⟩:=k1;exact DataW.trod_lt m _ _ _ hm
 obtain ⟨z1,w1,y1⟩:=ops_open h1
 obtain ⟨a2,len2,cap2,rfl⟩:=okWide_slice Tryz.underlying24 (hval 2 24 v2 rfl rfl)
 have k2:=h2
 have lt2:∀ x ∈ p2,x.block < W.heap.size:=by obtain ⟨m,hm⟩:=k2;exact DataW.trod_lt m _ _ _ hm
 obtain ⟨z2,w2,y2⟩:=ops_open h2
 obtain ⟨a3,len3,cap3,rfl⟩:=okWide_slice Tryz.underlying24 (hval 3 24 v3 rfl rfl)
 have k3:=h3
 have lt3:∀ x ∈ p3,x.block < W.heap.size:=by obtain ⟨m,hm⟩:=k3;exact DataW.trod_lt m _ _ _ hm
 obtain ⟨z3,w3,y3⟩:=ops_open h3
 have b1:=bulk_part (l:=[d0,d1,d2,d3]) (d:=d1) (by simp)
 have b2:=bulk_part (l:=[d0,d1,d2,d3]) (d:=d2) (by simp)
 have b3:=bulk_part (l:=[d0,d1,d2,d3]) (d:=d3) (by simp)
 clear hA0 hval0
 refine (modelPairs_walk ⟨a0_0,a0_1,a0_2,a0_3,a0_4,a0_5,a0_6,a0_7,a0_8⟩ a1 len1 cap1 z1 a2 len2 cap2 z2 a3 len3 cap3 z3 W w1 (by have:=bulk_bound hk;simp only [List.append_nil] at this;omega) w2 (by have:=bulk_bound hk;simp only [List.append_nil] at this;omega) w3 (by have:=bulk_bound hk;simp only [List.append_nil] at this;omega)).mono fun e W' ⟨he,bel⟩=>?_
 subst he
 exact ⟨_,rfl,_,_,_,[],_,[],hW',trodAll_mk1 (shut_bool Tryz.underlying4 _),(trodAll_cons_mk (Below.trod laidOut (by kernel_rfl) (of_decide_eq_true (by kernel_rfl)) k0 bel lt0) (trodAll_cons_mk (Below.trod laidOut (by kernel_rfl) (of_decide_eq_true (by kernel_rfl)) k1 bel lt1) (trodAll_cons_mk (Below.trod laidOut (by kernel_rfl) (of_decide_eq_true (by kernel_rfl)) k2 bel lt2) (trodAll_cons_mk (Below.trod laidOut (by kernel_rfl) (of_decide_eq_true (by kernel_rfl)) k3 bel lt3) trodAll_mk0)))),rfl,bel.frame _,fun h=>by cases h⟩

theorem over:Rows.modelPairsUptoRow.holds Tryz.pinned (Rows.OpenSpec.upto Rows.modelPairsSpec):=
 OpenClaim.holds_of_cond 5 Tryz.f5 rfl rfl rfl rfl rfl rfl rfl ⟨rfl,rfl,rfl,rfl,rfl⟩ rfl rfl rfl rfl rfl (by kernel_rfl) Tryz.func5 (by kernel_rfl)
  (of_decide_eq_true (by kernel_rfl)) (by unfold Func.isWrapper;first | (rw [if_pos (by decide +kernel)];kernel_rfl) | (rw [if_neg (by decide +kernel)];exact ⟨rfl,rfl⟩))
  (fun os started H enc _ F=>lifted os started H enc F)

/-- ModelPairs holds for every input of a bulk that fits. -/
theorem proved:Rows.ModelPairsUptoSaid:=over
end Go.Proofs.YtnbjodoajfkekaaGreat.modelPairs
