/- The document's machines compared (Same). -/
import Derived.Test.YtnbjodoajfkekaaGreatMv0
import Derived.Test.YtnbjodoajfkekaaGreatMw16
import Derived.Test.YtnbjodoajfkekaaGreatMw4
import Derived.Test.YtnbjodoajfkekaaGreatMw8
import Derived.Test.YtnbjodoajfkekaaGreatMv19
import Derived.WalkKit
import Derived.ProofKit
import Derived.BigQuiet
import Derived.Deep.QuietTactic
import Derived.Lib.Hide
import Derived.RegionTactic
namespace Go.Proofs.YtnbjodoajfkekaaGreat
open Go.RowKit
set_option linter.unusedSimpArgs false
section
variable {No No2:Nat→Prop} {h h2:RmH} {st st2:Mc} {w:World}
theorem RmIn.bd (i:RmIn w No h st) (q:Int):(st.ms q).length≤100000∧(∀ x ∈ st.ms q,0≤x.1∧x.1≤65536)∧(st.rs q).length≤1000:=by
 have h1:=i.ok.few q
 have h2:=(i.ok.cn q).few
 have h3:=i.ok.cf.regions
 have h4:=i.ok.cf.pages
 refine ⟨by omega,fun x hx=>?_,by omega⟩
 have:=find_in (i.ok.pg q x hx).2 (i.ok.wi q)
 omega
set_option maxHeartbeats 4000000 in
set_option maxRecDepth 100000 in
theorem rsame18_any (i:RmIn w No h st) (i2:RmIn w No2 h2 st2) (hcc:st.c=st2.c):Calls Tryz.prog 28 #[.pointer (some ⟨h.m,0,none⟩),.pointer (some ⟨h2.m,0,none⟩)] w fun e w'=>∃ b:Bool,e = .returned (.bool b)∧(b=true↔SameP st st2)∧Below w.heap.size w w':=by
 obtain ⟨D,hD⟩:∃ D:Bool,(D=true↔sameTo st st2 st.pr):=by
  by_cases hs:sameTo st st2 st.pr
  ·exact ⟨true,by simp [hs]⟩
  ·exact ⟨false,by simp [hs]⟩
 have hD2:=hD.trans (sameTo_iff i.ok i2.ok hcc)
 have HD2:=Lib.hid hD2;have HD:=Lib.hid hD;have HI:=Lib.hid i;have HJ:=Lib.hid i2
 have hpe:st2.pr=st.pr:=by unfold Mc.pr;rw [hcc]
 have HPE:=Lib.hid hpe
 obtain ⟨c4,_,_,_,_,c10⟩:=i.cells
 obtain ⟨d4,_,_,_,_,d10⟩:=i2.cells
 rw [← hcc] at d4;rw [hpe] at d10
 have hprl:(st.pr:Int)≤64:=by have:=i.ok.prL;omega
 obtain ⟨PG,hPG⟩:∃ y,st.c.page=y:=⟨_,rfl⟩
 rw [hPG] at c4 d4;have HPG:=Lib.hid hPG;have HCC:=Lib.hid hcc;have HC10:=Lib.hid c10;have HD10:=Lib.hid d10;clear hD hD2 i i2 hcc hpe hPG
 go_enter Tryz.func28,Tryz.ntmps28
 go_wp2_with fail;go_quiet (fail)
 have hbq:=belowN (Below.refl w.heap.size w) nq
 have HBQ:=Lib.hid hbq;clear hbq;go_wp2_with fail
 go_loopw [5] (fun i wr=>∃ k:Nat,k≤st.pr∧i = .int .i64 k∧Hid (sameTo st st2 k∧Below w.heap.size w wr)) (fun i _=>st.pr - (intOf i).toNat)
 case atStart=>exact ⟨0,by omega,rfl,fun j hj=>by omega,HBQ.out⟩
 case round=>
  obtain ⟨k,hk,rfl,hh⟩:=hrel
  obtain ⟨hto,hbr⟩:=hh.out
  have HTO:=Lib.hid hto;have BR:=Lib.hid hbr
  have c10r:=cel hbr HC10.out
  have d10r:=cel hbr HD10.out
  have IR:=Lib.hid (HI.out.below hbr)
  have JR:=Lib.hid (HJ.out.below hbr)
  clear hh hto hbr c4 d4 c10 d10
  by_cases hkn:k < st.pr
  ·have hkp:(k:Int) < (st.pr:Int):=by omega
   have hkn2:k < st2.pr:=by rw [HPE.out];exact hkn
   have HF:Hid (¬ (st.has (k:Int)=st2.has (k:Int)∧(st.has (k:Int)=true→st.rs (k:Int)=st2.rs (k:Int)∧∀ n ∈ bothL (st.ms (k:Int)) (st2.ms (k:Int)),pgB st.c.page (st.ms (k:Int)) n=pgB st2.c.page (st2.ms (k:Int)) n))→D=false):=fun hne=>by
    cases hd:D with
    | false=>rfl
    | true=>exact absurd (HD.out.1 hd k hkn) hne
   have HT:Hid ((st.has (k:Int)=st2.has (k:Int)∧(st.has (k:Int)=true→st.rs (k:Int)=st2.rs (k:Int)∧∀ n ∈ bothL (st.ms (k:Int)) (st2.ms (k:Int)),pgB st.c.page (st.ms (k:Int)) n=pgB st2.c.page (st2.ms (k:Int)) n))→sameTo st st2 (k+1)):=fun hy j hj=>by
    by_cases e:j=k
    ·rw [e];exact hy
    ·exact HTO.out j (by omega)
   cases q1:st.has (k:Int) with
   | false=>
    have cp:=IR.out.ptr_no hkn q1
    cases q2:st2.has (k:Int) with
    | false=>
     have cp2:=JR.out.ptr_no hkn2 q2
     have HT1:=Lib.hid (HT.out ⟨by rw [q1,q2],fun e=>by rw [q1] at e;cases e⟩)
     clear q1 q2;go_wp2_with fail
     go_roundw
     case rel=>exact ⟨k+1,by omega,by go_num,HT1.out,BR.out⟩
     case measure=>simp [intOf] <;> omega
    | true=>
     obtain ⟨q,hq1,_,cp2⟩:=JR.out.ptr q2
     obtain rfl:k=q:=by omega
     have HDF:=Lib.hid (HF.out (fun e=>by rw [q1,q2] at e;exact absurd e.1 (by decide)))
     clear q1 q2 hq1;go_wp2_with fail
     go_ret
     exact ⟨D,by rw [HDF.out];rfl,HD2.out,BR.out⟩
   | true=>
    obtain ⟨q,hq1,_,cp⟩:=IR.out.ptr q1
    obtain rfl:k=q:=by omega
    cases q2:st2.has (k:Int) with
    | false=>
     have cp2:=JR.out.ptr_no hkn2 q2
     have HDF:=Lib.hid (HF.out (fun e=>by rw [q1,q2] at e;exact absurd e.1 (by decide)))
     clear q1 q2 hq1;go_wp2_with fail
     go_ret
     exact ⟨D,by rw [HDF.out];rfl,HD2.out,BR.out⟩
    | true=>
     obtain ⟨q,hq2,_,cp2⟩:=JR.out.ptr q2
     obtain rfl:k=q:=by omega
     have HQ1:=Lib.hid q1;have HQ2:=Lib.hid q2
     obtain ⟨ra,rn,rc,_,_,z0,_,g2,_⟩:=(IR.out.pr (k:Int) q1).cell
     obtain ⟨sa,sn,sc,_,_,y0,_,k2,_⟩:=(JR.out.pr (k:Int) q2).cell
     have HZ0:=Lib.hid z0;have HY0:=Lib.hid y0;have HR1:=Lib.hid g2.1;have HR2:=Lib.hid k2.1
     have hrb:rn≤1000:=by have h1:=g2.1.len;have h2:=(IR.out.bd (k:Int)).2.2;omega
     have hsb:sn≤1000:=by have h1:=k2.1.len;have h2:=(JR.out.bd (k:Int)).2.2;omega
     obtain ⟨E,hE⟩:∃ b:Bool,decide (st.rs (k:Int)=st2.rs (k:Int))=b:=⟨_,rfl⟩
     have HE:=Lib.hid hE;clear hq1 hq2 q1 q2 g2 k2 hE;go_wp2_with fail
     refine' reg_free (G:=Kept) (pickF [eqV _,eqV _,eqV _,eqV _,eqV _,eqV _,eqV _,eqV _,eqV (.bool E),eqV _]) [64,65,66,67,68,69,70,71,72,73] [[],[0],[1],[2],[],[4],[5],[6],[3,7],[8]] [0,1,2,3,4,5,6,7,8,9] (by kernel_rfl) Kept.refl Kept.trans (pick_stays ⟨eS _,eS _,eS _,eS _,eS _,eS _,eS _,eS _,eS _,eS _,trivial⟩) 100 rfl (by kernel_rfl) (by kernel_rfl) rfl rfl ?r1obl ?r1fin
     case r1obl=>
      refine ⟨?r1o0,?r1o1,?r1o2,?r1o3,?r1o4,?r1o5,?r1o6,?r1o7,?r1o8,?r1o9,trivial⟩
      case r1o0 | r1o4=>
       intro w1 hG;refine t1o (by rfl) ?_;intro K hK;go_simp;refine hK _ _ ⟨rfl,Kept.refl _,?_⟩;show _=_;simp only [gv1];rfl
      case r1o1 | r1o2=>
       intro w1 hG;intro va ha;change _=_ at ha;subst ha;refine t1o (by rfl) ?_;intro K hK;simp only [gv2];go_simp;refine hK _ _ ⟨rfl,Kept.refl _,?_⟩;show _=_;simp only [gv1];rfl
      case r1o3=>
       intro w1 hG;intro v2 h2;change _=_ at h2;subst h2;refine t1o (by rfl) ?_;intro K hK;simp only [gv2]
       have hc:=cel (kept_0 hG) HZ0.out
       go_simp;refine hK _ _ ⟨rfl,Kept.refl _,?_⟩;show _=_;simp only [gv1];rfl
      case r1o5 | r1o6=>
       intro w1 hG;intro va ha;change _=_ at ha;subst ha;refine t1o (by rfl) ?_;intro K hK;simp only [gv2];go_simp;refine hK _ _ ⟨rfl,Kept.refl _,?_⟩;show _=_;simp only [gv1];rfl
      case r1o7=>
       intro w1 hG;intro v6 h6;change _=_ at h6;subst h6;refine t1o (by rfl) ?_;intro K hK;simp only [gv2]
       have hc:=cel (kept_0 hG) HY0.out
       go_simp;refine hK _ _ ⟨rfl,Kept.refl _,?_⟩;show _=_;simp only [gv1];rfl
      case r1o8=>
       intro w1 hG;intro v3 h3;change _=_ at h3;subst h3;intro v7 h7;change _=_ at h7;subst h7;refine t1o (by rfl) ?_;intro K hK;simp only [gv2]
       have hbk:=kept_0 hG
       go_simp
       have hq:=rsameR_any ra rn rc (st.rs (k:Int)) sa sn sc (st2.rs (k:Int)) w1 (HR1.out.below hbk) (HR2.out.below hbk) ⟨by omega,by omega⟩
       rw [HE.out] at hq
       refine Calls.mono hq ?_
       rintro e w2 ⟨rfl,hb2⟩
       refine hK _ _ ⟨rfl,hb2,?_⟩
       show _=_;simp only [gv1]
      case r1o9=>
       intro w1 hG;intro va ha;change _=_ at ha;subst ha;refine t1o (by rfl) ?_;intro K hK;simp only [gv2];go_simp;refine hK _ _ ⟨rfl,Kept.refl _,?_⟩;show _=_;simp only [gv1];rfl
     intro w1 hG;intro v0 h0;change _=_ at h0;subst h0;intro v1 h1;change _=_ at h1;subst h1;intro v2 h2;change _=_ at h2;subst h2;intro v3 h3;change _=_ at h3;subst h3;intro v4 h4;change _=_ at h4;subst h4;intro v5 h5;change _=_ at h5;subst h5;intro v6 h6;change _=_ at h6;subst h6;intro v7 h7;change _=_ at h7;subst h7;intro v8 h8;change _=_ at h8;subst h8
     intro v9 h9;change _=_ at h9;subst h9
     simp only [Given,gv2]
     have hbk:=kept_0 hG
     have B1:=Lib.hid (Below.call BR.out hbk)
     have I1:=Lib.hid (IR.out.below hbk)
     have J1:=Lib.hid (JR.out.below hbk)
     obtain ⟨wA,hwA⟩:∃ y:World,y=w1:=⟨_,rfl⟩
     subst hwA;clear hG hbk z0 y0 cp cp2 c10r d10r
     cases E with
     | false=>
      have HDF:=Lib.hid (HF.out (fun e=>by
       have h1:=(e.2 HQ1.out).1
       have h2:=HE.out
       rw [decide_eq_true h1] at h2
       cases h2))
      go_wp2_with fail
      go_ret
      exact ⟨D,by rw [HDF.out];rfl,HD2.out,B1.out⟩
     | true=>
      have hre:st.rs (k:Int)=st2.rs (k:Int):=of_decide_eq_true HE.out
      have HRE:=Lib.hid hre
      have HBO:=Lib.hid (both_any (I1.out.pr (k:Int) HQ1.out) (J1.out.pr (k:Int) HQ2.out) (I1.out.bd (k:Int)).1 (J1.out.bd (k:Int)).1 (I1.out.bd (k:Int)).2.1 (J1.out.bd (k:Int)).2.1)
      obtain ⟨BL,hBL⟩:∃ y,bothL (st.ms (k:Int)) (st2.ms (k:Int))=y:=⟨_,rfl⟩
      rw [hBL] at HBO HF HT
      have hbl:=bothL_len (st.ms (k:Int)) (st2.ms (k:Int))
      have hb1:=I1.out.ok.few (k:Int)
      have hb2:=J1.out.ok.few (k:Int)
      rw [hBL] at hbl;clear hre hBL;go_wp2_with fail
      refine HBO.out.mono ?_
      rintro e w2 ⟨v,rfl,ho,hbx⟩
      obtain ⟨n,hn⟩:∃ y,BL.length=y:=⟨_,rfl⟩
      obtain ⟨va,vc,rfl⟩:=ho.shapeN n hn
      rw [hn] at hbl;have HN:=Lib.hid hn;have OW:=Lib.hid ho.rd
      have B2:=Lib.hid (Below.call B1.out hbx)
      have I2:=Lib.hid (I1.out.below hbx)
      have J2:=Lib.hid (J1.out.below hbx)
      clear ho hbx hn HBO;go_wp2_with fail
      obtain ⟨wL,hwL⟩:∃ y:World,y=w2:=⟨_,rfl⟩
      subst hwL
      go_loopw [9] (fun i wr=>∃ j:Nat,j≤n∧i = .int .i64 j∧Hid ((∀ m ∈ BL.take j,pgB st.c.page (st.ms (k:Int)) m=pgB st2.c.page (st2.ms (k:Int)) m)∧Below wL.heap.size wL wr)) (fun i _=>n - (intOf i).toNat)
      case atStart=>exact ⟨0,by omega,rfl,fun m hm=>(by simp at hm),Below.refl _ _⟩
      case round=>
       obtain ⟨j,hj,rfl,hh⟩:=hrel
       obtain ⟨hsf,hbr2⟩:=hh.out
       have HSF:=Lib.hid hsf;have BL2:=Lib.hid hbr2
       have B3:=Lib.hid (Below.call B2.out hbr2)
       have I3:=Lib.hid (I2.out.below hbr2)
       have J3:=Lib.hid (J2.out.below hbr2)
       have OW3:=Lib.hid (OW.out.below hbr2)
       clear hh hsf hbr2
       by_cases hjn:j < n
       ·obtain ⟨b,ad,hva,hcx⟩:=OW3.out.cell j hjn
        subst hva
        obtain ⟨N,hN⟩:∃ y,nth BL j=y:=⟨_,rfl⟩
        rw [hN] at hcx;have HCX:=Lib.hid hcx
        have hBj:BL[j]?=some N:=by rw [← hN,nth_eq (by rw [HN.out];exact hjn)];exact List.getElem?_eq_getElem _
        have HTK:=Lib.hid (take_snoc hBj)
        have hmem:=List.mem_of_getElem? hBj
        have HMEM:=Lib.hid hmem
        have hcap:=OW3.out.cap
        have hP1:=pgOk_B I3.out.ok.cf.page.1 (fun x hx=>(I3.out.ok.pg (k:Int) x hx).1) N
        have hP2:=pgOk_B J3.out.ok.cf.page.1 (fun x hx=>(J3.out.ok.pg (k:Int) x hx).1) N
        obtain ⟨X,hX⟩:∃ y,pgB st.c.page (st.ms (k:Int)) N=y:=⟨_,rfl⟩
        obtain ⟨Y,hY⟩:∃ y,pgB st2.c.page (st2.ms (k:Int)) N=y:=⟨_,rfl⟩
        rw [hX] at hP1;rw [hY] at hP2
        have hsi:=str_iff (fun y hy=>wf_u8_bd (hP1.2 y hy)) (fun y hy=>wf_u8_bd (hP2.2 y hy))
        obtain ⟨S1,hS1⟩:∃ y,strOfNums X=y:=⟨_,rfl⟩
        obtain ⟨S2,hS2⟩:∃ y,strOfNums Y=y:=⟨_,rfl⟩
        rw [hS1,hS2] at hsi
        obtain ⟨F,hF⟩:∃ b:Bool,decide (X=Y)=b:=⟨_,rfl⟩
        rw [hF] at hsi;have HX:=Lib.hid hX;have HY:=Lib.hid hY;have HS1:=Lib.hid hS1;have HS2:=Lib.hid hS2;have HFX:=Lib.hid hF;have HSI:=Lib.hid hsi;clear hcx hN hBj hmem hP1 hP2 hX hY hS1 hS2 hF hsi;go_wp2_with fail
        refine' reg_free (G:=Kept) (pickF [eqV _,eqV _,eqV _,eqV _,eqV _,eqV _,(fun v w5=>∃ a m c,v=Value.slice a m c∧RdAt .u8 w5 a m c X),eqV (.string S1),eqV _,eqV _,eqV _,eqV _,eqV _,eqV _,(fun v w5=>∃ a m c,v=Value.slice a m c∧RdAt .u8 w5 a m c Y),eqV (.string S2),eqV (.bool (!F))]) [83,84,85,86,87,88,89,90,91,92,93,94,95,96,97,98,99] [[],[],[],[],[2,3],[4],[0,1,5],[6],[],[],[],[],[10,11],[12],[8,9,13],[14],[7,15]] [0,1,2,3,4,5,6,7,8,9,10,11,12,13,14,15,16] (by kernel_rfl) Kept.refl Kept.trans (pick_stays ⟨eS _,eS _,eS _,eS _,eS _,eS _,(fun _ _ _ p b=>by obtain ⟨a,m,c,e,h1⟩:=p;exact ⟨a,m,c,e,h1.below b⟩),eS _,eS _,eS _,eS _,eS _,eS _,eS _,(fun _ _ _ p b=>by obtain ⟨a,m,c,e,h1⟩:=p;exact ⟨a,m,c,e,h1.below b⟩),eS _,eS _,trivial⟩) 100 rfl (by kernel_rfl) (by kernel_rfl) rfl rfl ?r2obl ?r2fin
        case r2obl=>
         refine ⟨?r2o0,?r2o1,?r2o2,?r2o3,?r2o4,?r2o5,?r2o6,?r2o7,?r2o8,?r2o9,?r2o10,?r2o11,?r2o12,?r2o13,?r2o14,?r2o15,?r2o16,trivial⟩
         case r2o0 | r2o1 | r2o2 | r2o3 | r2o8 | r2o9 | r2o10 | r2o11=>
          intro w1 hG;refine t1o (by rfl) ?_;intro K hK;go_simp;refine hK _ _ ⟨rfl,Kept.refl _,?_⟩;show _=_;simp only [gv1];rfl
         case r2o4=>
          intro w1 hG;intro va ha;change _=_ at ha;subst ha;intro vb hb;change _=_ at hb;subst hb;refine t1o (by rfl) ?_;intro K hK;simp only [gv2];go_simp;refine hK _ _ ⟨rfl,Kept.refl _,?_⟩;show _=_;simp only [gv1];rfl
         case r2o5=>
          intro w1 hG;intro v4 h4;change _=_ at h4;subst h4;refine t1o (by rfl) ?_;intro K hK;simp only [gv2]
          have hc:=cel (kept_0 hG) HCX.out
          go_simp;refine hK _ _ ⟨rfl,Kept.refl _,?_⟩;show _=_;simp only [gv1];rfl
         case r2o6=>
          intro w1 hG;intro v0 h0;change _=_ at h0;subst h0;intro v1 h1;change _=_ at h1;subst h1;intro v5 h5;change _=_ at h5;subst h5;refine t1o (by rfl) ?_;intro K hK;simp only [gv2]
          have hbk:=kept_0 hG
          go_simp
          refine Calls.mono (rbytesOf_any (I3.out.below hbk) (k:Int) HQ1.out N) ?_
          rintro e w2 ⟨a,m,c,rfl,h1,hb2⟩
          rw [HX.out] at h1
          refine hK _ _ ⟨rfl,hb2,?_⟩
          exact ⟨a,m,c,rfl,h1⟩
         case r2o7=>
          intro w1 hG;intro v6 h6
          obtain ⟨a6,m6,c6,rfl,h6⟩:=h6
          refine t1o (by rfl) ?_;intro K hK;simp only [gv2]
          refine wp_conv 90 rfl u8T s8 su _ rfl rfl h6 ?_
          refine hK _ _ ⟨rfl,Kept.refl _,?_⟩;rw [HS1.out];show _=_;simp only [gv1];rfl
         case r2o12=>
          intro w1 hG;intro va ha;change _=_ at ha;subst ha;intro vb hb;change _=_ at hb;subst hb;refine t1o (by rfl) ?_;intro K hK;simp only [gv2];go_simp;refine hK _ _ ⟨rfl,Kept.refl _,?_⟩;show _=_;simp only [gv1];rfl
         case r2o13=>
          intro w1 hG;intro v12 h12;change _=_ at h12;subst h12;refine t1o (by rfl) ?_;intro K hK;simp only [gv2]
          have hc:=cel (kept_0 hG) HCX.out
          go_simp;refine hK _ _ ⟨rfl,Kept.refl _,?_⟩;show _=_;simp only [gv1];rfl
         case r2o14=>
          intro w1 hG;intro v8 h8;change _=_ at h8;subst h8;intro v9 h9;change _=_ at h9;subst h9;intro v13 h13;change _=_ at h13;subst h13;refine t1o (by rfl) ?_;intro K hK;simp only [gv2]
          have hbk:=kept_0 hG
          go_simp
          refine Calls.mono (rbytesOf_any (J3.out.below hbk) (k:Int) HQ2.out N) ?_
          rintro e w2 ⟨a,m,c,rfl,h1,hb2⟩
          rw [HY.out] at h1
          refine hK _ _ ⟨rfl,hb2,?_⟩
          exact ⟨a,m,c,rfl,h1⟩
         case r2o15=>
          intro w1 hG;intro v14 h14
          obtain ⟨a14,m14,c14,rfl,h14⟩:=h14
          refine t1o (by rfl) ?_;intro K hK;simp only [gv2]
          refine wp_conv 98 rfl u8T s8 su _ rfl rfl h14 ?_
          refine hK _ _ ⟨rfl,Kept.refl _,?_⟩;rw [HS2.out];show _=_;simp only [gv1];rfl
         case r2o16=>
          intro w1 hG;intro v7 h7;change _=_ at h7;subst h7;intro v15 h15;change _=_ at h15;subst h15;refine t1o (by rfl) ?_;intro K hK;simp only [gv2]
          have hsi:=HSI.out
          go_simp;refine hK _ _ ⟨rfl,Kept.refl _,?_⟩;show _=_;simp only [gv1]
        intro w1 hG;intro v0 h0;change _=_ at h0;subst h0;intro v1 h1;change _=_ at h1;subst h1;intro v2 h2;change _=_ at h2;subst h2;intro v3 h3;change _=_ at h3;subst h3;intro v4 h4;change _=_ at h4;subst h4;intro v5 h5;change _=_ at h5;subst h5;intro v6 h6
        obtain ⟨a6,m6,c6,rfl,h6⟩:=h6
        intro v7 h7;change _=_ at h7;subst h7;intro v8 h8;change _=_ at h8;subst h8;intro v9 h9;change _=_ at h9;subst h9;intro v10 h10;change _=_ at h10;subst h10;intro v11 h11;change _=_ at h11;subst h11;intro v12 h12;change _=_ at h12;subst h12;intro v13 h13;change _=_ at h13;subst h13;intro v14 h14
        obtain ⟨a14,m14,c14,rfl,h14⟩:=h14
        intro v15 h15;change _=_ at h15;subst h15;intro v16 h16;change _=_ at h16;subst h16
        simp only [Given,gv2]
        have hbk:=kept_0 hG
        have B4:=Lib.hid (Below.call B3.out hbk)
        have BL4:=Lib.hid (Below.call BL2.out hbk)
        clear hG hbk h6 h14
        cases F with
        | true=>
         have hxy:X=Y:=of_decide_eq_true HFX.out
         have HS4:Hid (∀ m ∈ BL.take (j+1),pgB st.c.page (st.ms (k:Int)) m=pgB st2.c.page (st2.ms (k:Int)) m):=fun m hm=>by
          rw [HTK.out,List.mem_append,List.mem_singleton] at hm
          rcases hm with hm | hm
          ·exact HSF.out m hm
          ·rw [hm,HX.out,HY.out];exact hxy
         clear hxy;go_wp2_with fail
         go_roundw
         case rel=>exact ⟨j+1,by omega,by go_num,HS4.out,BL4.out⟩
         case measure=>simp [intOf] <;> omega
        | false=>
         have HDF:=Lib.hid (HF.out (fun e=>by
          have h1:=(e.2 HQ1.out).2 N HMEM.out
          rw [HX.out,HY.out] at h1
          have h2:=HFX.out
          rw [decide_eq_true h1] at h2
          cases h2))
         go_wp2_with fail
         go_ret
         exact ⟨D,by rw [HDF.out];rfl,HD2.out,B4.out⟩
       ·obtain rfl:j=n:=by omega
        have hfull:BL.take j=BL:=List.take_of_length_le (by rw [HN.out];omega)
        have hsf:=HSF.out
        rw [hfull] at hsf
        have HT1:=Lib.hid (HT.out ⟨by rw [HQ1.out,HQ2.out],fun _=>⟨HRE.out,hsf⟩⟩)
        clear hfull hsf;go_wp2_with fail
        go_roundw
        case rel=>exact ⟨k+1,by omega,by go_num,HT1.out,B3.out⟩
        case measure=>simp [intOf] <;> omega
  ·obtain rfl:k=st.pr:=by omega
   have HDT:=Lib.hid (HD.out.2 HTO.out)
   go_wp2_with fail
   go_ret
   exact ⟨D,by rw [HDT.out];rfl,HD2.out,BR.out⟩
end
end Go.Proofs.YtnbjodoajfkekaaGreat
