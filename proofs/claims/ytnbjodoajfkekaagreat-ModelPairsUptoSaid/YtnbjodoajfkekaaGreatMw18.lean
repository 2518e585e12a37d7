/- How much the document's machines differ (Delta). -/
import Derived.Test.YtnbjodoajfkekaaGreatMv0
import Derived.Test.YtnbjodoajfkekaaGreatMw17
import Derived.WalkKit
import Derived.ProofKit
import Derived.BigQuiet
import Derived.Deep.QuietTactic
import Derived.Lib.Hide
import Derived.RegionTactic
namespace Go.Proofs.YtnbjodoajfkekaaGreat
open Go.RowKit
set_option linter.unusedSimpArgs false
theorem oneD_bd {st st2:Mc} (h:McOk st) (h2:McOk st2) (p:Int):oneD st st2 p≤200000:=by
 have a1:=h.few p
 have a2:=h2.few p
 have b1:=(h.cn p).few
 have b2:=(h2.cn p).few
 have c1:=h.cf.regions
 have c2:=h2.cf.regions
 have d:=unlM_le (st.ms p) (st2.ms p)
 unfold oneD oneE
 split
 ·split <;> omega
 ·omega
 ·omega
 ·omega
theorem dsum_bd {st st2:Mc} (h:McOk st) (h2:McOk st2):∀ k,dsum st st2 k≤200000 * k
 | 0=>Nat.zero_le _
 | k+1=>by
  have:=dsum_bd h h2 k
  have:=oneD_bd h h2 (k:Int)
  rw [dsum]
  omega
theorem dsum_more {st st2:Mc} (h:McOk st) (h2:McOk st2) (hpr:st2.pr=st.pr):∀ j,dsum st st2 (st.pr+j)=dsum st st2 st.pr
 | 0=>rfl
 | j+1=>by
  have hno:∀ {s:Mc},McOk s→s.pr=st.pr→s.has ((st.pr+j:Nat):Int)=false:=fun {s} hs hp=>by
   have h1:=hs.prI
   unfold Mc.has hasB
   simp
   intro _ h3
   omega
  rw [← Nat.add_assoc,dsum,dsum_more h h2 hpr j]
  unfold oneD
  rw [hno h rfl,hno h2 hpr];rfl
theorem deltaM_pr {st st2:Mc} (h:McOk st) (h2:McOk st2) (hpr:st2.pr=st.pr):deltaM st st2=dsum st st2 st.pr:=by
 have h3:=dsum_more h h2 hpr (64 - st.pr)
 have h4:=h.prL
 rw [show st.pr+(64 - st.pr)=64 by omega] at h3
 exact h3
section
variable {No No2:Nat→Prop} {h h2:RmH} {st st2:Mc} {w:World}
set_option maxHeartbeats 4000000 in
set_option maxRecDepth 100000 in
theorem rdelta_any (i:RmIn w No h st) (i2:RmIn w No2 h2 st2) (hcc:st.c=st2.c):Calls Tryz.prog 29 #[.pointer (some ⟨h.m,0,none⟩),.pointer (some ⟨h2.m,0,none⟩)] w fun e w'=>e = .returned (.int .i64 ((deltaM st st2:Nat):Int))∧Below w.heap.size w w':=by
 have hpe:st2.pr=st.pr:=by unfold Mc.pr;rw [hcc]
 rw [deltaM_pr i.ok i2.ok hpe];have HPE:=Lib.hid hpe;have HI:=Lib.hid i;have HJ:=Lib.hid i2;have HCC:=Lib.hid hcc
 obtain ⟨_,_,_,_,_,c10⟩:=i.cells
 obtain ⟨_,_,_,_,_,d10⟩:=i2.cells
 rw [hpe] at d10
 have hprl:(st.pr:Int)≤64:=by have:=i.ok.prL;omega
 have hprn:st.pr≤64:=by omega
 have HC10:=Lib.hid c10;have HD10:=Lib.hid d10
 obtain ⟨TT,hTT⟩:∃ y,dsum st st2 st.pr=y:=⟨_,rfl⟩
 rw [hTT];have HTT:=Lib.hid hTT;clear i i2 hcc hpe hTT
 go_enter Tryz.func29,Tryz.ntmps29
 go_wp2_with fail
 go_loopw [5,6] (fun n i wr=>∃ (k:Nat) (x:Int),k≤st.pr∧i = .int .i64 k∧n = .int .i64 x∧Hid (x=((dsum st st2 k:Nat):Int)∧Below w.heap.size w wr)) (fun _ i _=>st.pr - (intOf i).toNat)
 case atStart=>exact ⟨0,0,by omega,rfl,rfl,rfl,Below.refl _ _⟩
 case round=>
  obtain ⟨k,x,hk,rfl,rfl,hh⟩:=hrel
  obtain ⟨hx,hbr⟩:=hh.out
  have HX:=Lib.hid hx;have BR:=Lib.hid hbr
  have c10r:=cel hbr HC10.out
  have d10r:=cel hbr HD10.out
  have IR:=Lib.hid (HI.out.below hbr)
  have JR:=Lib.hid (HJ.out.below hbr)
  have hxb:=dsum_bd HI.out.ok HJ.out.ok k
  have hx0:0≤x:=by omega
  have hx1:x≤12800000:=by omega
  clear hh hx hbr c10 d10 hxb
  by_cases hkn:k < st.pr
  ·have hkp:(k:Int) < (st.pr:Int):=by omega
   have dk:decide ((k:Int) < (st.pr:Int))=true:=decide_eq_true hkp
   have hkn2:k < st2.pr:=by rw [HPE.out];exact hkn
   have HDS:Hid (dsum st st2 (k+1)=dsum st st2 k+oneD st st2 (k:Int)):=rfl
   cases q1:st.has (k:Int) with
   | false=>
    have cp:=IR.out.ptr_no hkn q1
    cases q2:st2.has (k:Int) with
    | false=>
     have cp2:=JR.out.ptr_no hkn2 q2
     have HE:Hid (x=((dsum st st2 (k+1):Nat):Int)):=by
      show _=_;rw [HDS.out,HX.out]
      unfold oneD
      rw [q1,q2];rfl
     clear q1 q2;go_wp2_with fail
     go_roundw
     case rel=>exact ⟨k+1,x,by omega,by go_num,rfl,HE.out,BR.out⟩
     case measure=>simp [intOf] <;> omega
    | true=>
     obtain ⟨q,hq1,_,cp2⟩:=JR.out.ptr q2
     obtain rfl:k=q:=by omega
     obtain ⟨_,rn,rc,_,lc,z0,z1,g2,_⟩:=(JR.out.pr (k:Int) q2).cell
     have hrn:=g2.1.len
     have hrb:=(JR.out.bd (k:Int)).2.2
     have hlb:=(JR.out.bd (k:Int)).1
     obtain ⟨NL,hNL⟩:∃ y,(st2.ms (k:Int)).length=y:=⟨_,rfl⟩
     rw [hNL] at z1 hlb;rw [hrn] at hrb
     have HE:Hid (x+1+(rn:Int)+(NL:Int)=((dsum st st2 (k+1):Nat):Int)):=by
      show _=_;rw [HDS.out,HX.out]
      unfold oneD
      rw [q1,q2]
      show _=((dsum st st2 k+(1+(st2.rs (k:Int)).length+(st2.ms (k:Int)).length):Nat):Int)
      rw [hrn,hNL]
      omega
     have u1:IntKind.i64.wrap (x+1)=x+1:=by rw [IntKind.wrap_i64];omega
     have u2:IntKind.i64.wrap (x+1+(rn:Int))=x+1+rn:=by rw [IntKind.wrap_i64];omega
     have u3:IntKind.i64.wrap (x+1+(rn:Int)+(NL:Int))=x+1+rn+NL:=by rw [IntKind.wrap_i64];omega
     clear q1 q2 hq1 g2 hrn hNL;go_wp2_with fail;go_quiet (fail);go_wp2_with fail
     go_roundw
     case rel=>exact ⟨k+1,x+1+rn+NL,by omega,by go_num,rfl,HE.out,belowNp BR.out _⟩
     case measure=>simp [intOf] <;> omega
   | true=>
    obtain ⟨q,hq1,_,cp⟩:=IR.out.ptr q1
    obtain rfl:k=q:=by omega
    cases q2:st2.has (k:Int) with
    | false=>
     have cp2:=JR.out.ptr_no hkn2 q2
     clear hq1 cp
     obtain ⟨q,hq1,_,cp⟩:=IR.out.ptr q1
     obtain rfl:k=q:=by omega
     obtain ⟨_,rn,rc,_,lc,z0,z1,g2,_⟩:=(IR.out.pr (k:Int) q1).cell
     have hrn:=g2.1.len
     have hrb:=(IR.out.bd (k:Int)).2.2
     have hlb:=(IR.out.bd (k:Int)).1
     obtain ⟨NL,hNL⟩:∃ y,(st.ms (k:Int)).length=y:=⟨_,rfl⟩
     rw [hNL] at z1 hlb;rw [hrn] at hrb
     have HE:Hid (x+1+(rn:Int)+(NL:Int)=((dsum st st2 (k+1):Nat):Int)):=by
      show _=_;rw [HDS.out,HX.out]
      unfold oneD
      rw [q1,q2]
      show _=((dsum st st2 k+(1+(st.rs (k:Int)).length+(st.ms (k:Int)).length):Nat):Int)
      rw [hrn,hNL]
      omega
     have u1:IntKind.i64.wrap (x+1)=x+1:=by rw [IntKind.wrap_i64];omega
     have u2:IntKind.i64.wrap (x+1+(rn:Int))=x+1+rn:=by rw [IntKind.wrap_i64];omega
     have u3:IntKind.i64.wrap (x+1+(rn:Int)+(NL:Int))=x+1+rn+NL:=by rw [IntKind.wrap_i64];omega
     clear q1 q2 hq1 g2 hrn hNL;go_wp2_with fail;go_quiet (fail);go_wp2_with fail
     go_roundw
     case rel=>exact ⟨k+1,x+1+rn+NL,by omega,by go_num,rfl,HE.out,belowNp BR.out _⟩
     case measure=>simp [intOf] <;> omega
    | true=>
     obtain ⟨q,hq2,_,cp2⟩:=JR.out.ptr q2
     obtain rfl:k=q:=by omega
     have HQ1:=Lib.hid q1;have HQ2:=Lib.hid q2
     obtain ⟨ra,rn,rc,_,_,z0,_,g2,_⟩:=(IR.out.pr (k:Int) q1).cell
     obtain ⟨sa,sn,sc,_,_,y0,_,k2,_⟩:=(JR.out.pr (k:Int) q2).cell
     have HZ0:=Lib.hid z0;have HY0:=Lib.hid y0;have HR1:=Lib.hid g2.1;have HR2:=Lib.hid k2.1
     have hrb:rn≤1000:=by have h1:=g2.1.len;have h2:=(IR.out.bd (k:Int)).2.2;omega
     have hsb:sn≤1000:=by have h1:=k2.1.len;have h2:=(JR.out.bd (k:Int)).2.2;omega
     obtain ⟨E,hE⟩:∃ b:Bool,decide (st.rs (k:Int)=st2.rs (k:Int))=b:=⟨_,rfl⟩
     have HE:=Lib.hid hE
     have HOD:Hid (oneD st st2 (k:Int)=(if E=true then 0 else 1)+unlM (st.ms (k:Int)) (st2.ms (k:Int))):=by
      show _=_
      unfold oneD
      rw [q1,q2]
      show (if st.rs (k:Int)=st2.rs (k:Int) then 0 else 1)+_=_
      congr 1
      by_cases e:st.rs (k:Int)=st2.rs (k:Int)
      ·rw [if_pos e,if_pos (by rw [← hE];exact decide_eq_true e)]
      ·rw [if_neg e,if_neg (by rw [← hE,decide_eq_false e];decide)]
     clear hq1 hq2 q1 q2 g2 k2 hE;go_wp2_with fail
     refine' reg_free (G:=Kept) (pickF [eqV _,eqV _,eqV _,eqV _,eqV _,eqV _,eqV _,eqV _,eqV (.bool E),eqV _]) [61,62,63,64,65,66,67,68,69,70] [[],[0],[1],[2],[],[4],[5],[6],[3,7],[8]] [0,1,2,3,4,5,6,7,8,9] (by kernel_rfl) Kept.refl Kept.trans (pick_stays ⟨eS _,eS _,eS _,eS _,eS _,eS _,eS _,eS _,eS _,eS _,trivial⟩) 166 rfl (by kernel_rfl) (by kernel_rfl) rfl rfl ?r1obl ?r1fin
     case r1obl=>
      refine ⟨?r1o0,?r1o1,?r1o2,?r1o3,?r1o4,?r1o5,?r1o6,?r1o7,?r1o8,?r1o9,trivial⟩
      case r1o0 | r1o4=>
       intro w1 hG;refine t1o (by rfl) ?_;intro K hK;go_simp;refine hK _ _ ⟨rfl,Kept.refl _,?_⟩;show _=_;simp only [gv1];rfl
      case r1o1 | r1o2=>
       intro w1 hG;intro va ha;change _=_ at ha;subst ha;refine t1o (by rfl) ?_;intro K hK;simp only [gv2];go_simp;refine hK _ _ ⟨rfl,Kept.refl _,?_⟩;show _=_;simp only [gv1];rfl
      case r1o3=>
       intro w1 hG;intro v2 h2;change _=_ at h2;subst h2;refine t1o (by rfl) ?_;intro K hK;simp only [gv2]
       have hc:=cel (kept_0 hG) HZ0.out
       go_simp;refine hK _ _ ⟨rfl,Kept.refl _,?_⟩;show _=_;simp only [gv1];rfl
      case r1o5 | r1o6=>
       intro w1 hG;intro va ha;change _=_ at ha;subst ha;refine t1o (by rfl) ?_;intro K hK;simp only [gv2];go_simp;refine hK _ _ ⟨rfl,Kept.refl _,?_⟩;show _=_;simp only [gv1];rfl
      case r1o7=>
       intro w1 hG;intro v6 h6;change _=_ at h6;subst h6;refine t1o (by rfl) ?_;intro K hK;simp only [gv2]
       have hc:=cel (kept_0 hG) HY0.out
       go_simp;refine hK _ _ ⟨rfl,Kept.refl _,?_⟩;show _=_;simp only [gv1];rfl
      case r1o8=>
       intro w1 hG;intro v3 h3;change _=_ at h3;subst h3;intro v7 h7;change _=_ at h7;subst h7;refine t1o (by rfl) ?_;intro K hK;simp only [gv2]
       have hbk:=kept_0 hG
       go_simp
       have hq:=rsameR_any ra rn rc (st.rs (k:Int)) sa sn sc (st2.rs (k:Int)) w1 (HR1.out.below hbk) (HR2.out.below hbk) ⟨by omega,by omega⟩
       rw [HE.out] at hq
       refine Calls.mono hq ?_
       rintro e w2 ⟨rfl,hb2⟩
       refine hK _ _ ⟨rfl,hb2,?_⟩
       show _=_;simp only [gv1]
      case r1o9=>
       intro w1 hG;intro va ha;change _=_ at ha;subst ha;refine t1o (by rfl) ?_;intro K hK;simp only [gv2];go_simp;refine hK _ _ ⟨rfl,Kept.refl _,?_⟩;show _=_;simp only [gv1];rfl
     intro w1 hG;intro v0 h0;change _=_ at h0;subst h0;intro v1 h1;change _=_ at h1;subst h1;intro v2 h2;change _=_ at h2;subst h2;intro v3 h3;change _=_ at h3;subst h3;intro v4 h4;change _=_ at h4;subst h4;intro v5 h5;change _=_ at h5;subst h5;intro v6 h6;change _=_ at h6;subst h6;intro v7 h7;change _=_ at h7;subst h7;intro v8 h8;change _=_ at h8;subst h8
     intro v9 h9;change _=_ at h9;subst h9
     simp only [Given,gv2]
     have hbk:=kept_0 hG
     have B1:=Lib.hid (Below.call BR.out hbk)
     have I1:=Lib.hid (IR.out.below hbk)
     have J1:=Lib.hid (JR.out.below hbk)
     obtain ⟨wA,hwA⟩:∃ y:World,y=w1:=⟨_,rfl⟩
     subst hwA;clear hG hbk z0 y0 cp cp2 c10r d10r
     have HBO:=Lib.hid (both_any (I1.out.pr (k:Int) HQ1.out) (J1.out.pr (k:Int) HQ2.out) (I1.out.bd (k:Int)).1 (J1.out.bd (k:Int)).1 (I1.out.bd (k:Int)).2.1 (J1.out.bd (k:Int)).2.1)
     have hct:=both_count st.c.page (I1.out.ok.srt (k:Int)) (J1.out.ok.srt (k:Int))
     obtain ⟨BL,hBL⟩:∃ y,bothL (st.ms (k:Int)) (st2.ms (k:Int))=y:=⟨_,rfl⟩
     rw [hBL] at HBO hct;have HCT:=Lib.hid hct
     have hbl:=bothL_len (st.ms (k:Int)) (st2.ms (k:Int))
     have hb1:=I1.out.ok.few (k:Int)
     have hb2:=J1.out.ok.few (k:Int)
     rw [hBL] at hbl;clear hBL hct
     obtain ⟨n,hn⟩:∃ y,BL.length=y:=⟨_,rfl⟩
     rw [hn] at hbl;have HN:=Lib.hid hn;clear hn
     have u1:IntKind.i64.wrap (x+1)=x+1:=by rw [IntKind.wrap_i64];omega
     cases E with
     | true=>
      go_wp2_with fail
      refine HBO.out.mono ?_
      rintro e w2 ⟨v,rfl,ho,hbx⟩
      obtain ⟨va,vc,rfl⟩:=ho.shapeN n HN.out
      have OW:=Lib.hid ho.rd
      have B2:=Lib.hid (Below.call B1.out hbx)
      have I2:=Lib.hid (I1.out.below hbx)
      have J2:=Lib.hid (J1.out.below hbx)
      clear ho hbx HBO;go_wp2_with fail
      obtain ⟨wL,hwL⟩:∃ y:World,y=w2:=⟨_,rfl⟩
      subst hwL
      go_loopw [5,10] (fun nn i wr=>∃ (j:Nat) (y:Int),j≤n∧i = .int .i64 j∧nn = .int .i64 y∧Hid (y=x+(((BL.take j).filter (difB st.c.page (st.ms (k:Int)) (st2.ms (k:Int)))).length:Int)∧Below wL.heap.size wL wr)) (fun _ i _=>n - (intOf i).toNat)
      case atStart=>exact ⟨0,x,by omega,rfl,rfl,by simp,Below.refl _ _⟩
      case round=>
       obtain ⟨j,y,hj,rfl,rfl,hh⟩:=hrel
       obtain ⟨hy,hbr2⟩:=hh.out
       have hfl:=filterK_le (difB st.c.page (st.ms (k:Int)) (st2.ms (k:Int))) BL j
       have hy0:0≤y∧y≤20000000:=by omega
       have hy1:=hy0.1
       have hy2:=hy0.2
       have HY:=Lib.hid hy;have BL2:=Lib.hid hbr2
       have B3:=Lib.hid (Below.call B2.out hbr2)
       have I3:=Lib.hid (I2.out.below hbr2)
       have J3:=Lib.hid (J2.out.below hbr2)
       have OW3:=Lib.hid (OW.out.below hbr2)
       clear hh hy hbr2 hfl hy0
       by_cases hjn:j < n
       ·have uy:IntKind.i64.wrap (y+1)=y+1:=by rw [IntKind.wrap_i64];omega
        obtain ⟨b,ad,hva,hcx⟩:=OW3.out.cell j hjn
        subst hva
        obtain ⟨N,hN⟩:∃ y,nth BL j=y:=⟨_,rfl⟩
        rw [hN] at hcx;have HCX:=Lib.hid hcx
        have hBj:BL[j]?=some N:=by rw [← hN,nth_eq (by rw [HN.out];exact hjn)];exact List.getElem?_eq_getElem _
        have HFT:=Lib.hid (filter_take (difB st.c.page (st.ms (k:Int)) (st2.ms (k:Int))) BL j N hBj)
        have hcap:=OW3.out.cap
        have hP1:=pgOk_B I3.out.ok.cf.page.1 (fun x hx=>(I3.out.ok.pg (k:Int) x hx).1) N
        have hP2:=pgOk_B J3.out.ok.cf.page.1 (fun x hx=>(J3.out.ok.pg (k:Int) x hx).1) N
        have HDI:Hid (difB st.c.page (st.ms (k:Int)) (st2.ms (k:Int)) N=(!decide ((kget (st.ms (k:Int)) N).isSome=(kget (st2.ms (k:Int)) N).isSome) || !decide (pgB st.c.page (st.ms (k:Int)) N=pgB st2.c.page (st2.ms (k:Int)) N))):=by show _=_;unfold difB;rw [HCC.out]
        obtain ⟨DD,hDD⟩:∃ b:Bool,difB st.c.page (st.ms (k:Int)) (st2.ms (k:Int)) N=b:=⟨_,rfl⟩
        rw [hDD] at HFT HDI
        obtain ⟨X,hX⟩:∃ y,pgB st.c.page (st.ms (k:Int)) N=y:=⟨_,rfl⟩
        obtain ⟨Y,hY⟩:∃ y,pgB st2.c.page (st2.ms (k:Int)) N=y:=⟨_,rfl⟩
        rw [hX] at hP1 HDI;rw [hY] at hP2 HDI
        have hsi:=str_iff (fun y hy=>wf_u8_bd (hP1.2 y hy)) (fun y hy=>wf_u8_bd (hP2.2 y hy))
        obtain ⟨S1,hS1⟩:∃ y,strOfNums X=y:=⟨_,rfl⟩
        obtain ⟨S2,hS2⟩:∃ y,strOfNums Y=y:=⟨_,rfl⟩
        rw [hS1,hS2] at hsi
        obtain ⟨F,hF⟩:∃ b:Bool,decide (X=Y)=b:=⟨_,rfl⟩
        rw [hF] at hsi HDI;have HXX:=Lib.hid hX;have HYY:=Lib.hid hY;have HS1:=Lib.hid hS1;have HS2:=Lib.hid hS2;have HSI:=Lib.hid hsi
        have HC1:=Lib.hid (find18_any (I3.out.pr (k:Int) HQ1.out) (I3.out.ok.srt (k:Int)) (by have:=(I3.out.bd (k:Int)).1;omega) N)
        obtain ⟨SA,hSA⟩:∃ b:Bool,(kget (st.ms (k:Int)) N).isSome=b:=⟨_,rfl⟩
        obtain ⟨SB,hSB⟩:∃ b:Bool,(kget (st2.ms (k:Int)) N).isSome=b:=⟨_,rfl⟩
        rw [hSA] at HC1;rw [hSA,hSB] at HDI;have HSB:=Lib.hid hSB;clear hN hBj hP1 hP2 hX hY hS1 hS2 hF hsi hDD hSA hSB;go_wp2_with fail
        refine HC1.out.mono ?_
        rintro e w3 ⟨rfl,hb3⟩
        have B4:=Lib.hid (Below.call B3.out hb3)
        have BL3:=Lib.hid (Below.call BL2.out hb3)
        have I4:=Lib.hid (I3.out.below hb3)
        have J4:=Lib.hid (J3.out.below hb3)
        replace hcx:=cel hb3 hcx
        have hc2:=find18_any (J4.out.pr (k:Int) HQ2.out) (J4.out.ok.srt (k:Int)) (by have:=(J4.out.bd (k:Int)).1;omega) N
        rw [HSB.out] at hc2;have HC2:=Lib.hid hc2;clear hb3 hc2 HC1;go_wp2_with fail
        refine HC2.out.mono ?_
        rintro e w4 ⟨rfl,hb4⟩
        have B5:=Lib.hid (Below.call B4.out hb4)
        have BL4:=Lib.hid (Below.call BL3.out hb4)
        have I5:=Lib.hid (I4.out.below hb4)
        have J5:=Lib.hid (J4.out.below hb4)
        replace hcx:=cel hb4 hcx;have HCY:=Lib.hid hcx;clear hb4 HC2
        obtain ⟨wM,hwM⟩:∃ y:World,y=w4:=⟨_,rfl⟩
        subst hwM;go_wp2_with fail
        cases SA with
        | true=>
         cases SB with
         | true=>
          refine' reg_free (G:=Kept) (pickF [eqV _,eqV _,eqV _,eqV _,eqV _,eqV _,eqV _,eqV _,eqV _,eqV _,(fun v w5=>∃ a m c,v=Value.slice a m c∧RdAt .u8 w5 a m c X),eqV (.string S1),eqV _,eqV _,eqV _,eqV _,eqV _,eqV _,(fun v w5=>∃ a m c,v=Value.slice a m c∧RdAt .u8 w5 a m c Y),eqV (.string S2),eqV (.bool (!F)),eqV _]) [100,101,102,103,104,105,106,107,108,109,110,111,112,113,114,115,116,117,118,119,120,121] [[],[],[0,1],[2],[3],[3],[3],[3],[3,6,7],[3,8],[3,4,5,9],[3,10],[3],[3],[3],[3],[3,14,15],[3,16],[3,12,13,17],[3,18],[3,11,19],[3,20]] [0,1,2,3,4,5,6,7,8,9,10,11,12,13,14,15,16,17,18,19,20,21] (by kernel_rfl) Kept.refl Kept.trans (pick_stays ⟨eS _,eS _,eS _,eS _,eS _,eS _,eS _,eS _,eS _,eS _,(fun _ _ _ p b=>by obtain ⟨a,m,c,e,h1⟩:=p;exact ⟨a,m,c,e,h1.below b⟩),eS _,eS _,eS _,eS _,eS _,eS _,eS _,(fun _ _ _ p b=>by obtain ⟨a,m,c,e,h1⟩:=p;exact ⟨a,m,c,e,h1.below b⟩),eS _,eS _,eS _,trivial⟩) 166 rfl (by kernel_rfl) (by kernel_rfl) rfl rfl ?r2obl ?r2fin
          case r2obl=>
           refine ⟨?r2o0,?r2o1,?r2o2,?r2o3,?r2o4,?r2o5,?r2o6,?r2o7,?r2o8,?r2o9,?r2o10,?r2o11,?r2o12,?r2o13,?r2o14,?r2o15,?r2o16,?r2o17,?r2o18,?r2o19,?r2o20,?r2o21,trivial⟩
           case r2o0 | r2o1=>
            intro w1 hG;refine t1o (by rfl) ?_;intro K hK;go_simp;refine hK _ _ ⟨rfl,Kept.refl _,?_⟩;show _=_;simp only [gv1];rfl
           case r2o2=>
            intro w1 hG;intro va ha;change _=_ at ha;subst ha;intro vb hb;change _=_ at hb;subst hb;refine t1o (by rfl) ?_;intro K hK;simp only [gv2];go_simp;refine hK _ _ ⟨rfl,Kept.refl _,?_⟩;show _=_;simp only [gv1];rfl
           case r2o3 | r2o4 | r2o5 | r2o6 | r2o7=>
            intro w1 hG;intro va ha;change _=_ at ha;subst ha;refine t1o (by rfl) ?_;intro K hK;simp only [gv2];go_simp;refine hK _ _ ⟨rfl,Kept.refl _,?_⟩;show _=_;simp only [gv1];rfl
           case r2o8=>
            intro w1 hG;intro va ha;change _=_ at ha;subst ha;intro vb hb;change _=_ at hb;subst hb;intro vc hc;change _=_ at hc;subst hc;refine t1o (by rfl) ?_;intro K hK;simp only [gv2];go_simp;refine hK _ _ ⟨rfl,Kept.refl _,?_⟩;show _=_;simp only [gv1];rfl
           case r2o9=>
            intro w1 hG;intro v3 h3;change _=_ at h3;subst h3;intro v8 h8;change _=_ at h8;subst h8;refine t1o (by rfl) ?_;intro K hK;simp only [gv2]
            have hc:=cel (kept_0 hG) HCY.out
            go_simp;refine hK _ _ ⟨rfl,Kept.refl _,?_⟩;show _=_;simp only [gv1];rfl
           case r2o10=>
            intro w1 hG;intro v3 h3;change _=_ at h3;subst h3;intro v4 h4;change _=_ at h4;subst h4;intro v5 h5;change _=_ at h5;subst h5;intro v9 h9;change _=_ at h9;subst h9;refine t1o (by rfl) ?_;intro K hK;simp only [gv2]
            have hbk:=kept_0 hG
            go_simp
            refine Calls.mono (rbytesOf_any (I5.out.below hbk) (k:Int) HQ1.out N) ?_
            rintro e w2 ⟨a,m,c,rfl,h1,hb2⟩
            rw [HXX.out] at h1
            refine hK _ _ ⟨rfl,hb2,?_⟩
            exact ⟨a,m,c,rfl,h1⟩
           case r2o11=>
            intro w1 hG;intro v3 h3;change _=_ at h3;subst h3;intro v10 h10
            obtain ⟨a10,m10,c10,rfl,h10⟩:=h10
            refine t1o (by rfl) ?_;intro K hK;simp only [gv2]
            refine wp_conv 111 rfl u8T s8 su _ rfl rfl h10 ?_
            refine hK _ _ ⟨rfl,Kept.refl _,?_⟩;rw [HS1.out];show _=_;simp only [gv1];rfl
           case r2o12 | r2o13 | r2o14 | r2o15=>
            intro w1 hG;intro va ha;change _=_ at ha;subst ha;refine t1o (by rfl) ?_;intro K hK;simp only [gv2];go_simp;refine hK _ _ ⟨rfl,Kept.refl _,?_⟩;show _=_;simp only [gv1];rfl
           case r2o16=>
            intro w1 hG;intro va ha;change _=_ at ha;subst ha;intro vb hb;change _=_ at hb;subst hb;intro vc hc;change _=_ at hc;subst hc;refine t1o (by rfl) ?_;intro K hK;simp only [gv2];go_simp;refine hK _ _ ⟨rfl,Kept.refl _,?_⟩;show _=_;simp only [gv1];rfl
           case r2o17=>
            intro w1 hG;intro v3 h3;change _=_ at h3;subst h3;intro v16 h16;change _=_ at h16;subst h16;refine t1o (by rfl) ?_;intro K hK;simp only [gv2]
            have hc:=cel (kept_0 hG) HCY.out
            go_simp;refine hK _ _ ⟨rfl,Kept.refl _,?_⟩;show _=_;simp only [gv1];rfl
           case r2o18=>
            intro w1 hG;intro v3 h3;change _=_ at h3;subst h3;intro v12 h12;change _=_ at h12;subst h12;intro v13 h13;change _=_ at h13;subst h13;intro v17 h17;change _=_ at h17;subst h17;refine t1o (by rfl) ?_;intro K hK;simp only [gv2]
            have hbk:=kept_0 hG
            go_simp
            refine Calls.mono (rbytesOf_any (J5.out.below hbk) (k:Int) HQ2.out N) ?_
            rintro e w2 ⟨a,m,c,rfl,h1,hb2⟩
            rw [HYY.out] at h1
            refine hK _ _ ⟨rfl,hb2,?_⟩
            exact ⟨a,m,c,rfl,h1⟩
           case r2o19=>
            intro w1 hG;intro v3 h3;change _=_ at h3;subst h3;intro v18 h18
            obtain ⟨a18,m18,c18,rfl,h18⟩:=h18
            refine t1o (by rfl) ?_;intro K hK;simp only [gv2]
            refine wp_conv 119 rfl u8T s8 su _ rfl rfl h18 ?_
            refine hK _ _ ⟨rfl,Kept.refl _,?_⟩;rw [HS2.out];show _=_;simp only [gv1];rfl
           case r2o20=>
            intro w1 hG;intro v3 h3;change _=_ at h3;subst h3;intro v11 h11;change _=_ at h11;subst h11;intro v19 h19;change _=_ at h19;subst h19;refine t1o (by rfl) ?_;intro K hK;simp only [gv2]
            have hsi:=HSI.out
            go_simp;refine hK _ _ ⟨rfl,Kept.refl _,?_⟩;show _=_;simp only [gv1]
           case r2o21=>
            intro w1 hG;intro va ha;change _=_ at ha;subst ha;intro vb hb;change _=_ at hb;subst hb;refine t1o (by rfl) ?_;intro K hK;simp only [gv2];go_simp;refine hK _ _ ⟨rfl,Kept.refl _,?_⟩;show _=_;simp only [gv1];rfl
          intro w1 hG;intro v0 h0;change _=_ at h0;subst h0;intro v1 h1;change _=_ at h1;subst h1;intro v2 h2;change _=_ at h2;subst h2;intro v3 h3;change _=_ at h3;subst h3;intro v4 h4;change _=_ at h4;subst h4;intro v5 h5;change _=_ at h5;subst h5;intro v6 h6;change _=_ at h6;subst h6;intro v7 h7;change _=_ at h7;subst h7;intro v8 h8;change _=_ at h8;subst h8
          intro v9 h9;change _=_ at h9;subst h9;intro v10 h10
          obtain ⟨a10,m10,c10,rfl,h10⟩:=h10
          intro v11 h11;change _=_ at h11;subst h11;intro v12 h12;change _=_ at h12;subst h12;intro v13 h13;change _=_ at h13;subst h13;intro v14 h14;change _=_ at h14;subst h14;intro v15 h15;change _=_ at h15;subst h15;intro v16 h16;change _=_ at h16;subst h16;intro v17 h17;change _=_ at h17;subst h17;intro v18 h18
          obtain ⟨a18,m18,c18,rfl,h18⟩:=h18
          intro v19 h19;change _=_ at h19;subst h19;intro v20 h20;change _=_ at h20;subst h20;intro v21 h21;change _=_ at h21;subst h21
          simp only [Given,gv2]
          have hbk:=kept_0 hG
          have BL5:=Lib.hid (Below.call BL4.out hbk)
          clear hG hbk h10 h18
          cases F with
          | true=>
           have HDD:Hid (DD=false):=by show _=_;rw [HDI.out];rfl
           have HY2:Hid (y=x+(((BL.take (j+1)).filter (difB st.c.page (st.ms (k:Int)) (st2.ms (k:Int)))).length:Int)):=by show _=_;rw [HFT.out,HDD.out,HY.out,if_neg (by decide)];omega
           go_wp2_with fail
           go_roundw
           case rel=>exact ⟨j+1,y,by omega,by go_num,rfl,HY2.out,BL5.out⟩
           case measure=>simp [intOf] <;> omega
          | false=>
           have HDD:Hid (DD=true):=by show _=_;rw [HDI.out];rfl
           have HY2:Hid (y+1=x+(((BL.take (j+1)).filter (difB st.c.page (st.ms (k:Int)) (st2.ms (k:Int)))).length:Int)):=by show _=_;rw [HFT.out,HDD.out,HY.out,if_pos rfl];omega
           go_wp2_with fail
           go_roundw
           case rel=>exact ⟨j+1,y+1,by omega,by go_num,rfl,HY2.out,BL5.out⟩
           case measure=>simp [intOf] <;> omega
         | false=>
          refine' reg_free (G:=Kept) (pickF [eqV _,eqV _,eqV _,eqV _,eqV _,eqV _,eqV _,eqV _,eqV _,eqV _,eqV _,eqV _,eqV _,eqV _,eqV _,eqV _,eqV _,eqV _,eqV _,eqV _,eqV _,eqV _]) [100,101,102,103,104,105,106,107,108,109,110,111,112,113,114,115,116,117,118,119,120,121] [[],[],[0,1],[2],[3],[3],[3],[3],[3,6,7],[3,8],[3,4,5,9],[3,10],[3],[3],[3],[3],[3,14,15],[3,16],[3,12,13,17],[3,18],[3,11,19],[3,20]] [0,1,2,3,4,5,6,7,8,9,10,11,12,13,14,15,16,17,18,19,20,21] (by kernel_rfl) Kept.refl Kept.trans (pick_stays ⟨eS _,eS _,eS _,eS _,eS _,eS _,eS _,eS _,eS _,eS _,eS _,eS _,eS _,eS _,eS _,eS _,eS _,eS _,eS _,eS _,eS _,eS _,trivial⟩) 166 rfl (by kernel_rfl) (by kernel_rfl) rfl rfl ?r3obl ?r3fin
          case r3obl=>
           refine ⟨?r3o0,?r3o1,?r3o2,?r3o3,?r3o4,?r3o5,?r3o6,?r3o7,?r3o8,?r3o9,?r3o10,?r3o11,?r3o12,?r3o13,?r3o14,?r3o15,?r3o16,?r3o17,?r3o18,?r3o19,?r3o20,?r3o21,trivial⟩
           case r3o0 | r3o1=>
            intro w1 hG;refine t1o (by rfl) ?_;intro K hK;go_simp;refine hK _ _ ⟨rfl,Kept.refl _,?_⟩;show _=_;simp only [gv1];rfl
           case r3o2=>
            intro w1 hG;intro va ha;change _=_ at ha;subst ha;intro vb hb;change _=_ at hb;subst hb;refine t1o (by rfl) ?_;intro K hK;simp only [gv2];go_simp;refine hK _ _ ⟨rfl,Kept.refl _,?_⟩;show _=_;simp only [gv1];rfl
           case r3o3=>
            intro w1 hG;intro va ha;change _=_ at ha;subst ha;refine t1o (by rfl) ?_;intro K hK;simp only [gv2];go_simp;refine hK _ _ ⟨rfl,Kept.refl _,?_⟩;show _=_;simp only [gv1];rfl
           case r3o4 | r3o5 | r3o6 | r3o7=>
            intro w1 hG;intro va ha;change _=_ at ha;subst ha;refine turn_off (by rfl) ?_;show _=_;rfl
           case r3o8=>
            intro w1 hG;intro va ha;change _=_ at ha;subst ha;intro vb hb;change _=_ at hb;subst hb;intro vc hc;change _=_ at hc;subst hc;refine turn_off (by rfl) ?_;show _=_;rfl
           case r3o9=>
            intro w1 hG;intro va ha;change _=_ at ha;subst ha;intro vb hb;change _=_ at hb;subst hb;refine turn_off (by rfl) ?_;show _=_;rfl
           case r3o10=>
            intro w1 hG;intro va ha;change _=_ at ha;subst ha;intro vb hb;change _=_ at hb;subst hb;intro vc hc;change _=_ at hc;subst hc;intro vd hd;change _=_ at hd;subst hd;refine turn_off (by rfl) ?_;show _=_;rfl
           case r3o11=>
            intro w1 hG;intro va ha;change _=_ at ha;subst ha;intro vb hb;change _=_ at hb;subst hb;refine turn_off (by rfl) ?_;show _=_;rfl
           case r3o12 | r3o13 | r3o14 | r3o15=>
            intro w1 hG;intro va ha;change _=_ at ha;subst ha;refine turn_off (by rfl) ?_;show _=_;rfl
           case r3o16=>
            intro w1 hG;intro va ha;change _=_ at ha;subst ha;intro vb hb;change _=_ at hb;subst hb;intro vc hc;change _=_ at hc;subst hc;refine turn_off (by rfl) ?_;show _=_;rfl
           case r3o17=>
            intro w1 hG;intro va ha;change _=_ at ha;subst ha;intro vb hb;change _=_ at hb;subst hb;refine turn_off (by rfl) ?_;show _=_;rfl
           case r3o18=>
            intro w1 hG;intro va ha;change _=_ at ha;subst ha;intro vb hb;change _=_ at hb;subst hb;intro vc hc;change _=_ at hc;subst hc;intro vd hd;change _=_ at hd;subst hd;refine turn_off (by rfl) ?_;show _=_;rfl
           case r3o19=>
            intro w1 hG;intro va ha;change _=_ at ha;subst ha;intro vb hb;change _=_ at hb;subst hb;refine turn_off (by rfl) ?_;show _=_;rfl
           case r3o20=>
            intro w1 hG;intro va ha;change _=_ at ha;subst ha;intro vb hb;change _=_ at hb;subst hb;intro vc hc;change _=_ at hc;subst hc;refine turn_off (by rfl) ?_;show _=_;rfl
           case r3o21=>
            intro w1 hG;intro va ha;change _=_ at ha;subst ha;intro vb hb;change _=_ at hb;subst hb;refine t1o (by rfl) ?_;intro K hK;simp only [gv2];go_simp;refine hK _ _ ⟨rfl,Kept.refl _,?_⟩;show _=_;simp only [gv1];rfl
          intro w1 hG;intro v0 h0;change _=_ at h0;subst h0;intro v1 h1;change _=_ at h1;subst h1;intro v2 h2;change _=_ at h2;subst h2;intro v3 h3;change _=_ at h3;subst h3;intro v4 h4;change _=_ at h4;subst h4;intro v5 h5;change _=_ at h5;subst h5;intro v6 h6;change _=_ at h6;subst h6;intro v7 h7;change _=_ at h7;subst h7;intro v8 h8;change _=_ at h8;subst h8
          intro v9 h9;change _=_ at h9;subst h9;intro v10 h10;change _=_ at h10;subst h10;intro v11 h11;change _=_ at h11;subst h11;intro v12 h12;change _=_ at h12;subst h12;intro v13 h13;change _=_ at h13;subst h13;intro v14 h14;change _=_ at h14;subst h14;intro v15 h15;change _=_ at h15;subst h15;intro v16 h16;change _=_ at h16;subst h16;intro v17 h17;change _=_ at h17
          subst h17;intro v18 h18;change _=_ at h18;subst h18;intro v19 h19;change _=_ at h19;subst h19;intro v20 h20;change _=_ at h20;subst h20;intro v21 h21;change _=_ at h21;subst h21
          simp only [Given,gv2]
          have hbk:=kept_0 hG
          have BL5:=Lib.hid (Below.call BL4.out hbk)
          clear hG hbk
          have HDD:Hid (DD=true):=by show _=_;rw [HDI.out];rfl
          have HY2:Hid (y+1=x+(((BL.take (j+1)).filter (difB st.c.page (st.ms (k:Int)) (st2.ms (k:Int)))).length:Int)):=by show _=_;rw [HFT.out,HDD.out,HY.out,if_pos rfl];omega
          go_wp2_with fail
          go_roundw
          case rel=>exact ⟨j+1,y+1,by omega,by go_num,rfl,HY2.out,BL5.out⟩
          case measure=>simp [intOf] <;> omega
        | false=>
         cases SB with
         | true=>
          refine' reg_free (G:=Kept) (pickF [eqV _,eqV _,eqV _,eqV _,eqV _,eqV _,eqV _,eqV _,eqV _,eqV _,eqV _,eqV _,eqV _,eqV _,eqV _,eqV _,eqV _,eqV _,eqV _,eqV _,eqV _,eqV _]) [100,101,102,103,104,105,106,107,108,109,110,111,112,113,114,115,116,117,118,119,120,121] [[],[],[0,1],[2],[3],[3],[3],[3],[3,6,7],[3,8],[3,4,5,9],[3,10],[3],[3],[3],[3],[3,14,15],[3,16],[3,12,13,17],[3,18],[3,11,19],[3,20]] [0,1,2,3,4,5,6,7,8,9,10,11,12,13,14,15,16,17,18,19,20,21] (by kernel_rfl) Kept.refl Kept.trans (pick_stays ⟨eS _,eS _,eS _,eS _,eS _,eS _,eS _,eS _,eS _,eS _,eS _,eS _,eS _,eS _,eS _,eS _,eS _,eS _,eS _,eS _,eS _,eS _,trivial⟩) 166 rfl (by kernel_rfl) (by kernel_rfl) rfl rfl ?r4obl ?r4fin
          case r4obl=>
           refine ⟨?r4o0,?r4o1,?r4o2,?r4o3,?r4o4,?r4o5,?r4o6,?r4o7,?r4o8,?r4o9,?r4o10,?r4o11,?r4o12,?r4o13,?r4o14,?r4o15,?r4o16,?r4o17,?r4o18,?r4o19,?r4o20,?r4o21,trivial⟩
           case r4o0 | r4o1=>
            intro w1 hG;refine t1o (by rfl) ?_;intro K hK;go_simp;refine hK _ _ ⟨rfl,Kept.refl _,?_⟩;show _=_;simp only [gv1];rfl
           case r4o2=>
            intro w1 hG;intro va ha;change _=_ at ha;subst ha;intro vb hb;change _=_ at hb;subst hb;refine t1o (by rfl) ?_;intro K hK;simp only [gv2];go_simp;refine hK _ _ ⟨rfl,Kept.refl _,?_⟩;show _=_;simp only [gv1];rfl
           case r4o3=>
            intro w1 hG;intro va ha;change _=_ at ha;subst ha;refine t1o (by rfl) ?_;intro K hK;simp only [gv2];go_simp;refine hK _ _ ⟨rfl,Kept.refl _,?_⟩;show _=_;simp only [gv1];rfl
           case r4o4 | r4o5 | r4o6 | r4o7=>
            intro w1 hG;intro va ha;change _=_ at ha;subst ha;refine turn_off (by rfl) ?_;show _=_;rfl
           case r4o8=>
            intro w1 hG;intro va ha;change _=_ at ha;subst ha;intro vb hb;change _=_ at hb;subst hb;intro vc hc;change _=_ at hc;subst hc;refine turn_off (by rfl) ?_;show _=_;rfl
           case r4o9=>
            intro w1 hG;intro va ha;change _=_ at ha;subst ha;intro vb hb;change _=_ at hb;subst hb;refine turn_off (by rfl) ?_;show _=_;rfl
           case r4o10=>
            intro w1 hG;intro va ha;change _=_ at ha;subst ha;intro vb hb;change _=_ at hb;subst hb;intro vc hc;change _=_ at hc;subst hc;intro vd hd;change _=_ at hd;subst hd;refine turn_off (by rfl) ?_;show _=_;rfl
           case r4o11=>
            intro w1 hG;intro va ha;change _=_ at ha;subst ha;intro vb hb;change _=_ at hb;subst hb;refine turn_off (by rfl) ?_;show _=_;rfl
           case r4o12 | r4o13 | r4o14 | r4o15=>
            intro w1 hG;intro va ha;change _=_ at ha;subst ha;refine turn_off (by rfl) ?_;show _=_;rfl
           case r4o16=>
            intro w1 hG;intro va ha;change _=_ at ha;subst ha;intro vb hb;change _=_ at hb;subst hb;intro vc hc;change _=_ at hc;subst hc;refine turn_off (by rfl) ?_;show _=_;rfl
           case r4o17=>
            intro w1 hG;intro va ha;change _=_ at ha;subst ha;intro vb hb;change _=_ at hb;subst hb;refine turn_off (by rfl) ?_;show _=_;rfl
           case r4o18=>
            intro w1 hG;intro va ha;change _=_ at ha;subst ha;intro vb hb;change _=_ at hb;subst hb;intro vc hc;change _=_ at hc;subst hc;intro vd hd;change _=_ at hd;subst hd;refine turn_off (by rfl) ?_;show _=_;rfl
           case r4o19=>
            intro w1 hG;intro va ha;change _=_ at ha;subst ha;intro vb hb;change _=_ at hb;subst hb;refine turn_off (by rfl) ?_;show _=_;rfl
           case r4o20=>
            intro w1 hG;intro va ha;change _=_ at ha;subst ha;intro vb hb;change _=_ at hb;subst hb;intro vc hc;change _=_ at hc;subst hc;refine turn_off (by rfl) ?_;show _=_;rfl
           case r4o21=>
            intro w1 hG;intro va ha;change _=_ at ha;subst ha;intro vb hb;change _=_ at hb;subst hb;refine t1o (by rfl) ?_;intro K hK;simp only [gv2];go_simp;refine hK _ _ ⟨rfl,Kept.refl _,?_⟩;show _=_;simp only [gv1];rfl
          intro w1 hG;intro v0 h0;change _=_ at h0;subst h0;intro v1 h1;change _=_ at h1;subst h1;intro v2 h2;change _=_ at h2;subst h2;intro v3 h3;change _=_ at h3;subst h3;intro v4 h4;change _=_ at h4;subst h4;intro v5 h5;change _=_ at h5;subst h5;intro v6 h6;change _=_ at h6;subst h6;intro v7 h7;change _=_ at h7;subst h7;intro v8 h8;change _=_ at h8;subst h8
          intro v9 h9;change _=_ at h9;subst h9;intro v10 h10;change _=_ at h10;subst h10;intro v11 h11;change _=_ at h11;subst h11;intro v12 h12;change _=_ at h12;subst h12;intro v13 h13;change _=_ at h13;subst h13;intro v14 h14;change _=_ at h14;subst h14;intro v15 h15;change _=_ at h15;subst h15;intro v16 h16;change _=_ at h16;subst h16;intro v17 h17;change _=_ at h17
          subst h17;intro v18 h18;change _=_ at h18;subst h18;intro v19 h19;change _=_ at h19;subst h19;intro v20 h20;change _=_ at h20;subst h20;intro v21 h21;change _=_ at h21;subst h21
          simp only [Given,gv2]
          have hbk:=kept_0 hG
          have BL5:=Lib.hid (Below.call BL4.out hbk)
          clear hG hbk
          have HDD:Hid (DD=true):=by show _=_;rw [HDI.out];rfl
          have HY2:Hid (y+1=x+(((BL.take (j+1)).filter (difB st.c.page (st.ms (k:Int)) (st2.ms (k:Int)))).length:Int)):=by show _=_;rw [HFT.out,HDD.out,HY.out,if_pos rfl];omega
          go_wp2_with fail
          go_roundw
          case rel=>exact ⟨j+1,y+1,by omega,by go_num,rfl,HY2.out,BL5.out⟩
          case measure=>simp [intOf] <;> omega
         | false=>
          refine' reg_free (G:=Kept) (pickF [eqV _,eqV _,eqV _,eqV _,eqV _,eqV _,eqV _,eqV _,eqV _,eqV _,(fun v w5=>∃ a m c,v=Value.slice a m c∧RdAt .u8 w5 a m c X),eqV (.string S1),eqV _,eqV _,eqV _,eqV _,eqV _,eqV _,(fun v w5=>∃ a m c,v=Value.slice a m c∧RdAt .u8 w5 a m c Y),eqV (.string S2),eqV (.bool (!F)),eqV _]) [100,101,102,103,104,105,106,107,108,109,110,111,112,113,114,115,116,117,118,119,120,121] [[],[],[0,1],[2],[3],[3],[3],[3],[3,6,7],[3,8],[3,4,5,9],[3,10],[3],[3],[3],[3],[3,14,15],[3,16],[3,12,13,17],[3,18],[3,11,19],[3,20]] [0,1,2,3,4,5,6,7,8,9,10,11,12,13,14,15,16,17,18,19,20,21] (by kernel_rfl) Kept.refl Kept.trans (pick_stays ⟨eS _,eS _,eS _,eS _,eS _,eS _,eS _,eS _,eS _,eS _,(fun _ _ _ p b=>by obtain ⟨a,m,c,e,h1⟩:=p;exact ⟨a,m,c,e,h1.below b⟩),eS _,eS _,eS _,eS _,eS _,eS _,eS _,(fun _ _ _ p b=>by obtain ⟨a,m,c,e,h1⟩:=p;exact ⟨a,m,c,e,h1.below b⟩),eS _,eS _,eS _,trivial⟩) 166 rfl (by kernel_rfl) (by kernel_rfl) rfl rfl ?r5obl ?r5fin
          case r5obl=>
           refine ⟨?r5o0,?r5o1,?r5o2,?r5o3,?r5o4,?r5o5,?r5o6,?r5o7,?r5o8,?r5o9,?r5o10,?r5o11,?r5o12,?r5o13,?r5o14,?r5o15,?r5o16,?r5o17,?r5o18,?r5o19,?r5o20,?r5o21,trivial⟩
           case r5o0 | r5o1=>
            intro w1 hG;refine t1o (by rfl) ?_;intro K hK;go_simp;refine hK _ _ ⟨rfl,Kept.refl _,?_⟩;show _=_;simp only [gv1];rfl
           case r5o2=>
            intro w1 hG;intro va ha;change _=_ at ha;subst ha;intro vb hb;change _=_ at hb;subst hb;refine t1o (by rfl) ?_;intro K hK;simp only [gv2];go_simp;refine hK _ _ ⟨rfl,Kept.refl _,?_⟩;show _=_;simp only [gv1];rfl
           case r5o3 | r5o4 | r5o5 | r5o6 | r5o7=>
            intro w1 hG;intro va ha;change _=_ at ha;subst ha;refine t1o (by rfl) ?_;intro K hK;simp only [gv2];go_simp;refine hK _ _ ⟨rfl,Kept.refl _,?_⟩;show _=_;simp only [gv1];rfl
           case r5o8=>
            intro w1 hG;intro va ha;change _=_ at ha;subst ha;intro vb hb;change _=_ at hb;subst hb;intro vc hc;change _=_ at hc;subst hc;refine t1o (by rfl) ?_;intro K hK;simp only [gv2];go_simp;refine hK _ _ ⟨rfl,Kept.refl _,?_⟩;show _=_;simp only [gv1];rfl
           case r5o9=>
            intro w1 hG;intro v3 h3;change _=_ at h3;subst h3;intro v8 h8;change _=_ at h8;subst h8;refine t1o (by rfl) ?_;intro K hK;simp only [gv2]
            have hc:=cel (kept_0 hG) HCY.out
            go_simp;refine hK _ _ ⟨rfl,Kept.refl _,?_⟩;show _=_;simp only [gv1];rfl
           case r5o10=>
            intro w1 hG;intro v3 h3;change _=_ at h3;subst h3;intro v4 h4;change _=_ at h4;subst h4;intro v5 h5;change _=_ at h5;subst h5;intro v9 h9;change _=_ at h9;subst h9;refine t1o (by rfl) ?_;intro K hK;simp only [gv2]
            have hbk:=kept_0 hG
            go_simp
            refine Calls.mono (rbytesOf_any (I5.out.below hbk) (k:Int) HQ1.out N) ?_
            rintro e w2 ⟨a,m,c,rfl,h1,hb2⟩
            rw [HXX.out] at h1
            refine hK _ _ ⟨rfl,hb2,?_⟩
            exact ⟨a,m,c,rfl,h1⟩
           case r5o11=>
            intro w1 hG;intro v3 h3;change _=_ at h3;subst h3;intro v10 h10
            obtain ⟨a10,m10,c10,rfl,h10⟩:=h10
            refine t1o (by rfl) ?_;intro K hK;simp only [gv2]
            refine wp_conv 111 rfl u8T s8 su _ rfl rfl h10 ?_
            refine hK _ _ ⟨rfl,Kept.refl _,?_⟩;rw [HS1.out];show _=_;simp only [gv1];rfl
           case r5o12 | r5o13 | r5o14 | r5o15=>
            intro w1 hG;intro va ha;change _=_ at ha;subst ha;refine t1o (by rfl) ?_;intro K hK;simp only [gv2];go_simp;refine hK _ _ ⟨rfl,Kept.refl _,?_⟩;show _=_;simp only [gv1];rfl
           case r5o16=>
            intro w1 hG;intro va ha;change _=_ at ha;subst ha;intro vb hb;change _=_ at hb;subst hb;intro vc hc;change _=_ at hc;subst hc;refine t1o (by rfl) ?_;intro K hK;simp only [gv2];go_simp;refine hK _ _ ⟨rfl,Kept.refl _,?_⟩;show _=_;simp only [gv1];rfl
           case r5o17=>
            intro w1 hG;intro v3 h3;change _=_ at h3;subst h3;intro v16 h16;change _=_ at h16;subst h16;refine t1o (by rfl) ?_;intro K hK;simp only [gv2]
            have hc:=cel (kept_0 hG) HCY.out
            go_simp;refine hK _ _ ⟨rfl,Kept.refl _,?_⟩;show _=_;simp only [gv1];rfl
           case r5o18=>
            intro w1 hG;intro v3 h3;change _=_ at h3;subst h3;intro v12 h12;change _=_ at h12;subst h12;intro v13 h13;change _=_ at h13;subst h13;intro v17 h17;change _=_ at h17;subst h17;refine t1o (by rfl) ?_;intro K hK;simp only [gv2]
            have hbk:=kept_0 hG
            go_simp
            refine Calls.mono (rbytesOf_any (J5.out.below hbk) (k:Int) HQ2.out N) ?_
            rintro e w2 ⟨a,m,c,rfl,h1,hb2⟩
            rw [HYY.out] at h1
            refine hK _ _ ⟨rfl,hb2,?_⟩
            exact ⟨a,m,c,rfl,h1⟩
           case r5o19=>
            intro w1 hG;intro v3 h3;change _=_ at h3;subst h3;intro v18 h18
            obtain ⟨a18,m18,c18,rfl,h18⟩:=h18
            refine t1o (by rfl) ?_;intro K hK;simp only [gv2]
            refine wp_conv 119 rfl u8T s8 su _ rfl rfl h18 ?_
            refine hK _ _ ⟨rfl,Kept.refl _,?_⟩;rw [HS2.out];show _=_;simp only [gv1];rfl
           case r5o20=>
            intro w1 hG;intro v3 h3;change _=_ at h3;subst h3;intro v11 h11;change _=_ at h11;subst h11;intro v19 h19;change _=_ at h19;subst h19;refine t1o (by rfl) ?_;intro K hK;simp only [gv2]
            have hsi:=HSI.out
            go_simp;refine hK _ _ ⟨rfl,Kept.refl _,?_⟩;show _=_;simp only [gv1]
           case r5o21=>
            intro w1 hG;intro va ha;change _=_ at ha;subst ha;intro vb hb;change _=_ at hb;subst hb;refine t1o (by rfl) ?_;intro K hK;simp only [gv2];go_simp;refine hK _ _ ⟨rfl,Kept.refl _,?_⟩;show _=_;simp only [gv1];rfl
          intro w1 hG;intro v0 h0;change _=_ at h0;subst h0;intro v1 h1;change _=_ at h1;subst h1;intro v2 h2;change _=_ at h2;subst h2;intro v3 h3;change _=_ at h3;subst h3;intro v4 h4;change _=_ at h4;subst h4;intro v5 h5;change _=_ at h5;subst h5;intro v6 h6;change _=_ at h6;subst h6;intro v7 h7;change _=_ at h7;subst h7;intro v8 h8;change _=_ at h8;subst h8
          intro v9 h9;change _=_ at h9;subst h9;intro v10 h10
          obtain ⟨a10,m10,c10,rfl,h10⟩:=h10
          intro v11 h11;change _=_ at h11;subst h11;intro v12 h12;change _=_ at h12;subst h12;intro v13 h13;change _=_ at h13;subst h13;intro v14 h14;change _=_ at h14;subst h14;intro v15 h15;change _=_ at h15;subst h15;intro v16 h16;change _=_ at h16;subst h16;intro v17 h17;change _=_ at h17;subst h17;intro v18 h18
          obtain ⟨a18,m18,c18,rfl,h18⟩:=h18
          intro v19 h19;change _=_ at h19;subst h19;intro v20 h20;change _=_ at h20;subst h20;intro v21 h21;change _=_ at h21;subst h21
          simp only [Given,gv2]
          have hbk:=kept_0 hG
          have BL5:=Lib.hid (Below.call BL4.out hbk)
          clear hG hbk h10 h18
          cases F with
          | true=>
           have HDD:Hid (DD=false):=by show _=_;rw [HDI.out];rfl
           have HY2:Hid (y=x+(((BL.take (j+1)).filter (difB st.c.page (st.ms (k:Int)) (st2.ms (k:Int)))).length:Int)):=by show _=_;rw [HFT.out,HDD.out,HY.out,if_neg (by decide)];omega
           go_wp2_with fail
           go_roundw
           case rel=>exact ⟨j+1,y,by omega,by go_num,rfl,HY2.out,BL5.out⟩
           case measure=>simp [intOf] <;> omega
          | false=>
           have HDD:Hid (DD=true):=by show _=_;rw [HDI.out];rfl
           have HY2:Hid (y+1=x+(((BL.take (j+1)).filter (difB st.c.page (st.ms (k:Int)) (st2.ms (k:Int)))).length:Int)):=by show _=_;rw [HFT.out,HDD.out,HY.out,if_pos rfl];omega
           go_wp2_with fail
           go_roundw
           case rel=>exact ⟨j+1,y+1,by omega,by go_num,rfl,HY2.out,BL5.out⟩
           case measure=>simp [intOf] <;> omega
       ·obtain rfl:j=n:=by omega
        have hfull:BL.take j=BL:=List.take_of_length_le (by rw [HN.out];omega)
        have HFIN:Hid (y=((dsum st st2 (k+1):Nat):Int)):=by
         show _=_;rw [HDS.out,HOD.out,HY.out,hfull,HCT.out,HX.out,if_pos trivial]
         omega
        clear hfull;go_wp2_with fail
        go_roundw
        case rel=>exact ⟨k+1,y,by omega,by go_num,rfl,HFIN.out,B3.out⟩
        case measure=>simp [intOf] <;> omega
     | false=>
      go_wp2_with fail
      refine HBO.out.mono ?_
      rintro e w2 ⟨v,rfl,ho,hbx⟩
      obtain ⟨va,vc,rfl⟩:=ho.shapeN n HN.out
      have OW:=Lib.hid ho.rd
      have B2:=Lib.hid (Below.call B1.out hbx)
      have I2:=Lib.hid (I1.out.below hbx)
      have J2:=Lib.hid (J1.out.below hbx)
      clear ho hbx HBO;go_wp2_with fail
      obtain ⟨wL,hwL⟩:∃ y:World,y=w2:=⟨_,rfl⟩
      subst hwL
      go_loopw [5,10] (fun nn i wr=>∃ (j:Nat) (y:Int),j≤n∧i = .int .i64 j∧nn = .int .i64 y∧Hid (y=(x+1)+(((BL.take j).filter (difB st.c.page (st.ms (k:Int)) (st2.ms (k:Int)))).length:Int)∧Below wL.heap.size wL wr)) (fun _ i _=>n - (intOf i).toNat)
      case atStart=>exact ⟨0,(x+1),by omega,rfl,rfl,by simp,Below.refl _ _⟩
      case round=>
       obtain ⟨j,y,hj,rfl,rfl,hh⟩:=hrel
       obtain ⟨hy,hbr2⟩:=hh.out
       have hfl:=filterK_le (difB st.c.page (st.ms (k:Int)) (st2.ms (k:Int))) BL j
       have hy0:0≤y∧y≤20000000:=by omega
       have hy1:=hy0.1
       have hy2:=hy0.2
       have HY:=Lib.hid hy;have BL2:=Lib.hid hbr2
       have B3:=Lib.hid (Below.call B2.out hbr2)
       have I3:=Lib.hid (I2.out.below hbr2)
       have J3:=Lib.hid (J2.out.below hbr2)
       have OW3:=Lib.hid (OW.out.below hbr2)
       clear hh hy hbr2 hfl hy0
       by_cases hjn:j < n
       ·have uy:IntKind.i64.wrap (y+1)=y+1:=by rw [IntKind.wrap_i64];omega
        obtain ⟨b,ad,hva,hcx⟩:=OW3.out.cell j hjn
        subst hva
        obtain ⟨N,hN⟩:∃ y,nth BL j=y:=⟨_,rfl⟩
        rw [hN] at hcx;have HCX:=Lib.hid hcx
        have hBj:BL[j]?=some N:=by rw [← hN,nth_eq (by rw [HN.out];exact hjn)];exact List.getElem?_eq_getElem _
        have HFT:=Lib.hid (filter_take (difB st.c.page (st.ms (k:Int)) (st2.ms (k:Int))) BL j N hBj)
        have hcap:=OW3.out.cap
        have hP1:=pgOk_B I3.out.ok.cf.page.1 (fun x hx=>(I3.out.ok.pg (k:Int) x hx).1) N
        have hP2:=pgOk_B J3.out.ok.cf.page.1 (fun x hx=>(J3.out.ok.pg (k:Int) x hx).1) N
        have HDI:Hid (difB st.c.page (st.ms (k:Int)) (st2.ms (k:Int)) N=(!decide ((kget (st.ms (k:Int)) N).isSome=(kget (st2.ms (k:Int)) N).isSome) || !decide (pgB st.c.page (st.ms (k:Int)) N=pgB st2.c.page (st2.ms (k:Int)) N))):=by show _=_;unfold difB;rw [HCC.out]
        obtain ⟨DD,hDD⟩:∃ b:Bool,difB st.c.page (st.ms (k:Int)) (st2.ms (k:Int)) N=b:=⟨_,rfl⟩
        rw [hDD] at HFT HDI
        obtain ⟨X,hX⟩:∃ y,pgB st.c.page (st.ms (k:Int)) N=y:=⟨_,rfl⟩
        obtain ⟨Y,hY⟩:∃ y,pgB st2.c.page (st2.ms (k:Int)) N=y:=⟨_,rfl⟩
        rw [hX] at hP1 HDI;rw [hY] at hP2 HDI
        have hsi:=str_iff (fun y hy=>wf_u8_bd (hP1.2 y hy)) (fun y hy=>wf_u8_bd (hP2.2 y hy))
        obtain ⟨S1,hS1⟩:∃ y,strOfNums X=y:=⟨_,rfl⟩
        obtain ⟨S2,hS2⟩:∃ y,strOfNums Y=y:=⟨_,rfl⟩
        rw [hS1,hS2] at hsi
        obtain ⟨F,hF⟩:∃ b:Bool,decide (X=Y)=b:=⟨_,rfl⟩
        rw [hF] at hsi HDI;have HXX:=Lib.hid hX;have HYY:=Lib.hid hY;have HS1:=Lib.hid hS1;have HS2:=Lib.hid hS2;have HSI:=Lib.hid hsi
        have HC1:=Lib.hid (find18_any (I3.out.pr (k:Int) HQ1.out) (I3.out.ok.srt (k:Int)) (by have:=(I3.out.bd (k:Int)).1;omega) N)
        obtain ⟨SA,hSA⟩:∃ b:Bool,(kget (st.ms (k:Int)) N).isSome=b:=⟨_,rfl⟩
        obtain ⟨SB,hSB⟩:∃ b:Bool,(kget (st2.ms (k:Int)) N).isSome=b:=⟨_,rfl⟩
        rw [hSA] at HC1;rw [hSA,hSB] at HDI;have HSB:=Lib.hid hSB;clear hN hBj hP1 hP2 hX hY hS1 hS2 hF hsi hDD hSA hSB;go_wp2_with fail
        refine HC1.out.mono ?_
        rintro e w3 ⟨rfl,hb3⟩
        have B4:=Lib.hid (Below.call B3.out hb3)
        have BL3:=Lib.hid (Below.call BL2.out hb3)
        have I4:=Lib.hid (I3.out.below hb3)
        have J4:=Lib.hid (J3.out.below hb3)
        replace hcx:=cel hb3 hcx
        have hc2:=find18_any (J4.out.pr (k:Int) HQ2.out) (J4.out.ok.srt (k:Int)) (by have:=(J4.out.bd (k:Int)).1;omega) N
        rw [HSB.out] at hc2;have HC2:=Lib.hid hc2;clear hb3 hc2 HC1;go_wp2_with fail
        refine HC2.out.mono ?_
        rintro e w4 ⟨rfl,hb4⟩
        have B5:=Lib.hid (Below.call B4.out hb4)
        have BL4:=Lib.hid (Below.call BL3.out hb4)
        have I5:=Lib.hid (I4.out.below hb4)
        have J5:=Lib.hid (J4.out.below hb4)
        replace hcx:=cel hb4 hcx;have HCY:=Lib.hid hcx;clear hb4 HC2
        obtain ⟨wM,hwM⟩:∃ y:World,y=w4:=⟨_,rfl⟩
        subst hwM;go_wp2_with fail
        cases SA with
        | true=>
         cases SB with
         | true=>
          refine' reg_free (G:=Kept) (pickF [eqV _,eqV _,eqV _,eqV _,eqV _,eqV _,eqV _,eqV _,eqV _,eqV _,(fun v w5=>∃ a m c,v=Value.slice a m c∧RdAt .u8 w5 a m c X),eqV (.string S1),eqV _,eqV _,eqV _,eqV _,eqV _,eqV _,(fun v w5=>∃ a m c,v=Value.slice a m c∧RdAt .u8 w5 a m c Y),eqV (.string S2),eqV (.bool (!F)),eqV _]) [100,101,102,103,104,105,106,107,108,109,110,111,112,113,114,115,116,117,118,119,120,121] [[],[],[0,1],[2],[3],[3],[3],[3],[3,6,7],[3,8],[3,4,5,9],[3,10],[3],[3],[3],[3],[3,14,15],[3,16],[3,12,13,17],[3,18],[3,11,19],[3,20]] [0,1,2,3,4,5,6,7,8,9,10,11,12,13,14,15,16,17,18,19,20,21] (by kernel_rfl) Kept.refl Kept.trans (pick_stays ⟨eS _,eS _,eS _,eS _,eS _,eS _,eS _,eS _,eS _,eS _,(fun _ _ _ p b=>by obtain ⟨a,m,c,e,h1⟩:=p;exact ⟨a,m,c,e,h1.below b⟩),eS _,eS _,eS _,eS _,eS _,eS _,eS _,(fun _ _ _ p b=>by obtain ⟨a,m,c,e,h1⟩:=p;exact ⟨a,m,c,e,h1.below b⟩),eS _,eS _,eS _,trivial⟩) 166 rfl (by kernel_rfl) (by kernel_rfl) rfl rfl ?r6obl ?r6fin
          case r6obl=>
           refine ⟨?r6o0,?r6o1,?r6o2,?r6o3,?r6o4,?r6o5,?r6o6,?r6o7,?r6o8,?r6o9,?r6o10,?r6o11,?r6o12,?r6o13,?r6o14,?r6o15,?r6o16,?r6o17,?r6o18,?r6o19,?r6o20,?r6o21,trivial⟩
           case r6o0 | r6o1=>
            intro w1 hG;refine t1o (by rfl) ?_;intro K hK;go_simp;refine hK _ _ ⟨rfl,Kept.refl _,?_⟩;show _=_;simp only [gv1];rfl
           case r6o2=>
            intro w1 hG;intro va ha;change _=_ at ha;subst ha;intro vb hb;change _=_ at hb;subst hb;refine t1o (by rfl) ?_;intro K hK;simp only [gv2];go_simp;refine hK _ _ ⟨rfl,Kept.refl _,?_⟩;show _=_;simp only [gv1];rfl
           case r6o3 | r6o4 | r6o5 | r6o6 | r6o7=>
            intro w1 hG;intro va ha;change _=_ at ha;subst ha;refine t1o (by rfl) ?_;intro K hK;simp only [gv2];go_simp;refine hK _ _ ⟨rfl,Kept.refl _,?_⟩;show _=_;simp only [gv1];rfl
           case r6o8=>
            intro w1 hG;intro va ha;change _=_ at ha;subst ha;intro vb hb;change _=_ at hb;subst hb;intro vc hc;change _=_ at hc;subst hc;refine t1o (by rfl) ?_;intro K hK;simp only [gv2];go_simp;refine hK _ _ ⟨rfl,Kept.refl _,?_⟩;show _=_;simp only [gv1];rfl
           case r6o9=>
            intro w1 hG;intro v3 h3;change _=_ at h3;subst h3;intro v8 h8;change _=_ at h8;subst h8;refine t1o (by rfl) ?_;intro K hK;simp only [gv2]
            have hc:=cel (kept_0 hG) HCY.out
            go_simp;refine hK _ _ ⟨rfl,Kept.refl _,?_⟩;show _=_;simp only [gv1];rfl
           case r6o10=>
            intro w1 hG;intro v3 h3;change _=_ at h3;subst h3;intro v4 h4;change _=_ at h4;subst h4;intro v5 h5;change _=_ at h5;subst h5;intro v9 h9;change _=_ at h9;subst h9;refine t1o (by rfl) ?_;intro K hK;simp only [gv2]
            have hbk:=kept_0 hG
            go_simp
            refine Calls.mono (rbytesOf_any (I5.out.below hbk) (k:Int) HQ1.out N) ?_
            rintro e w2 ⟨a,m,c,rfl,h1,hb2⟩
            rw [HXX.out] at h1
            refine hK _ _ ⟨rfl,hb2,?_⟩
            exact ⟨a,m,c,rfl,h1⟩
           case r6o11=>
            intro w1 hG;intro v3 h3;change _=_ at h3;subst h3;intro v10 h10
            obtain ⟨a10,m10,c10,rfl,h10⟩:=h10
            refine t1o (by rfl) ?_;intro K hK;simp only [gv2]
            refine wp_conv 111 rfl u8T s8 su _ rfl rfl h10 ?_
            refine hK _ _ ⟨rfl,Kept.refl _,?_⟩;rw [HS1.out];show _=_;simp only [gv1];rfl
           case r6o12 | r6o13 | r6o14 | r6o15=>
            intro w1 hG;intro va ha;change _=_ at ha;subst ha;refine t1o (by rfl) ?_;intro K hK;simp only [gv2];go_simp;refine hK _ _ ⟨rfl,Kept.refl _,?_⟩;show _=_;simp only [gv1];rfl
           case r6o16=>
            intro w1 hG;intro va ha;change _=_ at ha;subst ha;intro vb hb;change _=_ at hb;subst hb;intro vc hc;change _=_ at hc;subst hc;refine t1o (by rfl) ?_;intro K hK;simp only [gv2];go_simp;refine hK _ _ ⟨rfl,Kept.refl _,?_⟩;show _=_;simp only [gv1];rfl
           case r6o17=>
            intro w1 hG;intro v3 h3;change _=_ at h3;subst h3;intro v16 h16;change _=_ at h16;subst h16;refine t1o (by rfl) ?_;intro K hK;simp only [gv2]
            have hc:=cel (kept_0 hG) HCY.out
            go_simp;refine hK _ _ ⟨rfl,Kept.refl _,?_⟩;show _=_;simp only [gv1];rfl
           case r6o18=>
            intro w1 hG;intro v3 h3;change _=_ at h3;subst h3;intro v12 h12;change _=_ at h12;subst h12;intro v13 h13;change _=_ at h13;subst h13;intro v17 h17;change _=_ at h17;subst h17;refine t1o (by rfl) ?_;intro K hK;simp only [gv2]
            have hbk:=kept_0 hG
            go_simp
            refine Calls.mono (rbytesOf_any (J5.out.below hbk) (k:Int) HQ2.out N) ?_
            rintro e w2 ⟨a,m,c,rfl,h1,hb2⟩
            rw [HYY.out] at h1
            refine hK _ _ ⟨rfl,hb2,?_⟩
            exact ⟨a,m,c,rfl,h1⟩
           case r6o19=>
            intro w1 hG;intro v3 h3;change _=_ at h3;subst h3;intro v18 h18
            obtain ⟨a18,m18,c18,rfl,h18⟩:=h18
            refine t1o (by rfl) ?_;intro K hK;simp only [gv2]
            refine wp_conv 119 rfl u8T s8 su _ rfl rfl h18 ?_
            refine hK _ _ ⟨rfl,Kept.refl _,?_⟩;rw [HS2.out];show _=_;simp only [gv1];rfl
           case r6o20=>
            intro w1 hG;intro v3 h3;change _=_ at h3;subst h3;intro v11 h11;change _=_ at h11;subst h11;intro v19 h19;change _=_ at h19;subst h19;refine t1o (by rfl) ?_;intro K hK;simp only [gv2]
            have hsi:=HSI.out
            go_simp;refine hK _ _ ⟨rfl,Kept.refl _,?_⟩;show _=_;simp only [gv1]
           case r6o21=>
            intro w1 hG;intro va ha;change _=_ at ha;subst ha;intro vb hb;change _=_ at hb;subst hb;refine t1o (by rfl) ?_;intro K hK;simp only [gv2];go_simp;refine hK _ _ ⟨rfl,Kept.refl _,?_⟩;show _=_;simp only [gv1];rfl
          intro w1 hG;intro v0 h0;change _=_ at h0;subst h0;intro v1 h1;change _=_ at h1;subst h1;intro v2 h2;change _=_ at h2;subst h2;intro v3 h3;change _=_ at h3;subst h3;intro v4 h4;change _=_ at h4;subst h4;intro v5 h5;change _=_ at h5;subst h5;intro v6 h6;change _=_ at h6;subst h6;intro v7 h7;change _=_ at h7;subst h7;intro v8 h8;change _=_ at h8;subst h8
          intro v9 h9;change _=_ at h9;subst h9;intro v10 h10
          obtain ⟨a10,m10,c10,rfl,h10⟩:=h10
          intro v11 h11;change _=_ at h11;subst h11;intro v12 h12;change _=_ at h12;subst h12;intro v13 h13;change _=_ at h13;subst h13;intro v14 h14;change _=_ at h14;subst h14;intro v15 h15;change _=_ at h15;subst h15;intro v16 h16;change _=_ at h16;subst h16;intro v17 h17;change _=_ at h17;subst h17;intro v18 h18
          obtain ⟨a18,m18,c18,rfl,h18⟩:=h18
          intro v19 h19;change _=_ at h19;subst h19;intro v20 h20;change _=_ at h20;subst h20;intro v21 h21;change _=_ at h21;subst h21
          simp only [Given,gv2]
          have hbk:=kept_0 hG
          have BL5:=Lib.hid (Below.call BL4.out hbk)
          clear hG hbk h10 h18
          cases F with
          | true=>
           have HDD:Hid (DD=false):=by show _=_;rw [HDI.out];rfl
           have HY2:Hid (y=(x+1)+(((BL.take (j+1)).filter (difB st.c.page (st.ms (k:Int)) (st2.ms (k:Int)))).length:Int)):=by show _=_;rw [HFT.out,HDD.out,HY.out,if_neg (by decide)];omega
           go_wp2_with fail
           go_roundw
           case rel=>exact ⟨j+1,y,by omega,by go_num,rfl,HY2.out,BL5.out⟩
           case measure=>simp [intOf] <;> omega
          | false=>
           have HDD:Hid (DD=true):=by show _=_;rw [HDI.out];rfl
           have HY2:Hid (y+1=(x+1)+(((BL.take (j+1)).filter (difB st.c.page (st.ms (k:Int)) (st2.ms (k:Int)))).length:Int)):=by show _=_;rw [HFT.out,HDD.out,HY.out,if_pos rfl];omega
           go_wp2_with fail
           go_roundw
           case rel=>exact ⟨j+1,y+1,by omega,by go_num,rfl,HY2.out,BL5.out⟩
           case measure=>simp [intOf] <;> omega
         | false=>
          refine' reg_free (G:=Kept) (pickF [eqV _,eqV _,eqV _,eqV _,eqV _,eqV _,eqV _,eqV _,eqV _,eqV _,eqV _,eqV _,eqV _,eqV _,eqV _,eqV _,eqV _,eqV _,eqV _,eqV _,eqV _,eqV _]) [100,101,102,103,104,105,106,107,108,109,110,111,112,113,114,115,116,117,118,119,120,121] [[],[],[0,1],[2],[3],[3],[3],[3],[3,6,7],[3,8],[3,4,5,9],[3,10],[3],[3],[3],[3],[3,14,15],[3,16],[3,12,13,17],[3,18],[3,11,19],[3,20]] [0,1,2,3,4,5,6,7,8,9,10,11,12,13,14,15,16,17,18,19,20,21] (by kernel_rfl) Kept.refl Kept.trans (pick_stays ⟨eS _,eS _,eS _,eS _,eS _,eS _,eS _,eS _,eS _,eS _,eS _,eS _,eS _,eS _,eS _,eS _,eS _,eS _,eS _,eS _,eS _,eS _,trivial⟩) 166 rfl (by kernel_rfl) (by kernel_rfl) rfl rfl ?r7obl ?r7fin
          case r7obl=>
           refine ⟨?r7o0,?r7o1,?r7o2,?r7o3,?r7o4,?r7o5,?r7o6,?r7o7,?r7o8,?r7o9,?r7o10,?r7o11,?r7o12,?r7o13,?r7o14,?r7o15,?r7o16,?r7o17,?r7o18,?r7o19,?r7o20,?r7o21,trivial⟩
           case r7o0 | r7o1=>
            intro w1 hG;refine t1o (by rfl) ?_;intro K hK;go_simp;refine hK _ _ ⟨rfl,Kept.refl _,?_⟩;show _=_;simp only [gv1];rfl
           case r7o2=>
            intro w1 hG;intro va ha;change _=_ at ha;subst ha;intro vb hb;change _=_ at hb;subst hb;refine t1o (by rfl) ?_;intro K hK;simp only [gv2];go_simp;refine hK _ _ ⟨rfl,Kept.refl _,?_⟩;show _=_;simp only [gv1];rfl
           case r7o3=>
            intro w1 hG;intro va ha;change _=_ at ha;subst ha;refine t1o (by rfl) ?_;intro K hK;simp only [gv2];go_simp;refine hK _ _ ⟨rfl,Kept.refl _,?_⟩;show _=_;simp only [gv1];rfl
           case r7o4 | r7o5 | r7o6 | r7o7=>
            intro w1 hG;intro va ha;change _=_ at ha;subst ha;refine turn_off (by rfl) ?_;show _=_;rfl
           case r7o8=>
            intro w1 hG;intro va ha;change _=_ at ha;subst ha;intro vb hb;change _=_ at hb;subst hb;intro vc hc;change _=_ at hc;subst hc;refine turn_off (by rfl) ?_;show _=_;rfl
           case r7o9=>
            intro w1 hG;intro va ha;change _=_ at ha;subst ha;intro vb hb;change _=_ at hb;subst hb;refine turn_off (by rfl) ?_;show _=_;rfl
           case r7o10=>
            intro w1 hG;intro va ha;change _=_ at ha;subst ha;intro vb hb;change _=_ at hb;subst hb;intro vc hc;change _=_ at hc;subst hc;intro vd hd;change _=_ at hd;subst hd;refine turn_off (by rfl) ?_;show _=_;rfl
           case r7o11=>
            intro w1 hG;intro va ha;change _=_ at ha;subst ha;intro vb hb;change _=_ at hb;subst hb;refine turn_off (by rfl) ?_;show _=_;rfl
           case r7o12 | r7o13 | r7o14 | r7o15=>
            intro w1 hG;intro va ha;change _=_ at ha;subst ha;refine turn_off (by rfl) ?_;show _=_;rfl
           case r7o16=>
            intro w1 hG;intro va ha;change _=_ at ha;subst ha;intro vb hb;change _=_ at hb;subst hb;intro vc hc;change _=_ at hc;subst hc;refine turn_off (by rfl) ?_;show _=_;rfl
           case r7o17=>
            intro w1 hG;intro va ha;change _=_ at ha;subst ha;intro vb hb;change _=_ at hb;subst hb;refine turn_off (by rfl) ?_;show _=_;rfl
           case r7o18=>
            intro w1 hG;intro va ha;change _=_ at ha;subst ha;intro vb hb;change _=_ at hb;subst hb;intro vc hc;change _=_ at hc;subst hc;intro vd hd;change _=_ at hd;subst hd;refine turn_off (by rfl) ?_;show _=_;rfl
           case r7o19=>
            intro w1 hG;intro va ha;change _=_ at ha;subst ha;intro vb hb;change _=_ at hb;subst hb;refine turn_off (by rfl) ?_;show _=_;rfl
           case r7o20=>
            intro w1 hG;intro va ha;change _=_ at ha;subst ha;intro vb hb;change _=_ at hb;subst hb;intro vc hc;change _=_ at hc;subst hc;refine turn_off (by rfl) ?_;show _=_;rfl
           case r7o21=>
            intro w1 hG;intro va ha;change _=_ at ha;subst ha;intro vb hb;change _=_ at hb;subst hb;refine t1o (by rfl) ?_;intro K hK;simp only [gv2];go_simp;refine hK _ _ ⟨rfl,Kept.refl _,?_⟩;show _=_;simp only [gv1];rfl
          intro w1 hG;intro v0 h0;change _=_ at h0;subst h0;intro v1 h1;change _=_ at h1;subst h1;intro v2 h2;change _=_ at h2;subst h2;intro v3 h3;change _=_ at h3;subst h3;intro v4 h4;change _=_ at h4;subst h4;intro v5 h5;change _=_ at h5;subst h5;intro v6 h6;change _=_ at h6;subst h6;intro v7 h7;change _=_ at h7;subst h7;intro v8 h8;change _=_ at h8;subst h8
          intro v9 h9;change _=_ at h9;subst h9;intro v10 h10;change _=_ at h10;subst h10;intro v11 h11;change _=_ at h11;subst h11;intro v12 h12;change _=_ at h12;subst h12;intro v13 h13;change _=_ at h13;subst h13;intro v14 h14;change _=_ at h14;subst h14;intro v15 h15;change _=_ at h15;subst h15;intro v16 h16;change _=_ at h16;subst h16;intro v17 h17;change _=_ at h17
          subst h17;intro v18 h18;change _=_ at h18;subst h18;intro v19 h19;change _=_ at h19;subst h19;intro v20 h20;change _=_ at h20;subst h20;intro v21 h21;change _=_ at h21;subst h21
          simp only [Given,gv2]
          have hbk:=kept_0 hG
          have BL5:=Lib.hid (Below.call BL4.out hbk)
          clear hG hbk
          have HDD:Hid (DD=true):=by show _=_;rw [HDI.out];rfl
          have HY2:Hid (y+1=(x+1)+(((BL.take (j+1)).filter (difB st.c.page (st.ms (k:Int)) (st2.ms (k:Int)))).length:Int)):=by show _=_;rw [HFT.out,HDD.out,HY.out,if_pos rfl];omega
          go_wp2_with fail
          go_roundw
          case rel=>exact ⟨j+1,y+1,by omega,by go_num,rfl,HY2.out,BL5.out⟩
          case measure=>simp [intOf] <;> omega
        | false=>
         cases SB with
         | true=>
          refine' reg_free (G:=Kept) (pickF [eqV _,eqV _,eqV _,eqV _,eqV _,eqV _,eqV _,eqV _,eqV _,eqV _,eqV _,eqV _,eqV _,eqV _,eqV _,eqV _,eqV _,eqV _,eqV _,eqV _,eqV _,eqV _]) [100,101,102,103,104,105,106,107,108,109,110,111,112,113,114,115,116,117,118,119,120,121] [[],[],[0,1],[2],[3],[3],[3],[3],[3,6,7],[3,8],[3,4,5,9],[3,10],[3],[3],[3],[3],[3,14,15],[3,16],[3,12,13,17],[3,18],[3,11,19],[3,20]] [0,1,2,3,4,5,6,7,8,9,10,11,12,13,14,15,16,17,18,19,20,21] (by kernel_rfl) Kept.refl Kept.trans (pick_stays ⟨eS _,eS _,eS _,eS _,eS _,eS _,eS _,eS _,eS _,eS _,eS _,eS _,eS _,eS _,eS _,eS _,eS _,eS _,eS _,eS _,eS _,eS _,trivial⟩) 166 rfl (by kernel_rfl) (by kernel_rfl) rfl rfl ?r8obl ?r8fin
          case r8obl=>
           refine ⟨?r8o0,?r8o1,?r8o2,?r8o3,?r8o4,?r8o5,?r8o6,?r8o7,?r8o8,?r8o9,?r8o10,?r8o11,?r8o12,?r8o13,?r8o14,?r8o15,?r8o16,?r8o17,?r8o18,?r8o19,?r8o20,?r8o21,trivial⟩
           case r8o0 | r8o1=>
            intro w1 hG;refine t1o (by rfl) ?_;intro K hK;go_simp;refine hK _ _ ⟨rfl,Kept.refl _,?_⟩;show _=_;simp only [gv1];rfl
           case r8o2=>
            intro w1 hG;intro va ha;change _=_ at ha;subst ha;intro vb hb;change _=_ at hb;subst hb;refine t1o (by rfl) ?_;intro K hK;simp only [gv2];go_simp;refine hK _ _ ⟨rfl,Kept.refl _,?_⟩;show _=_;simp only [gv1];rfl
           case r8o3=>
            intro w1 hG;intro va ha;change _=_ at ha;subst ha;refine t1o (by rfl) ?_;intro K hK;simp only [gv2];go_simp;refine hK _ _ ⟨rfl,Kept.refl _,?_⟩;show _=_;simp only [gv1];rfl
           case r8o4 | r8o5 | r8o6 | r8o7=>
            intro w1 hG;intro va ha;change _=_ at ha;subst ha;refine turn_off (by rfl) ?_;show _=_;rfl
           case r8o8=>
            intro w1 hG;intro va ha;change _=_ at ha;subst ha;intro vb hb;change _=_ at hb;subst hb;intro vc hc;change _=_ at hc;subst hc;refine turn_off (by rfl) ?_;show _=_;rfl
           case r8o9=>
            intro w1 hG;intro va ha;change _=_ at ha;subst ha;intro vb hb;change _=_ at hb;subst hb;refine turn_off (by rfl) ?_;show _=_;rfl
           case r8o10=>
            intro w1 hG;intro va ha;change _=_ at ha;subst ha;intro vb hb;change _=_ at hb;subst hb;intro vc hc;change _=_ at hc;subst hc;intro vd hd;change _=_ at hd;subst hd;refine turn_off (by rfl) ?_;show _=_;rfl
           case r8o11=>
            intro w1 hG;intro va ha;change _=_ at ha;subst ha;intro vb hb;change _=_ at hb;subst hb;refine turn_off (by rfl) ?_;show _=_;rfl
           case r8o12 | r8o13 | r8o14 | r8o15=>
            intro w1 hG;intro va ha;change _=_ at ha;subst ha;refine turn_off (by rfl) ?_;show _=_;rfl
           case r8o16=>
            intro w1 hG;intro va ha;change _=_ at ha;subst ha;intro vb hb;change _=_ at hb;subst hb;intro vc hc;change _=_ at hc;subst hc;refine turn_off (by rfl) ?_;show _=_;rfl
           case r8o17=>
            intro w1 hG;intro va ha;change _=_ at ha;subst ha;intro vb hb;change _=_ at hb;subst hb;refine turn_off (by rfl) ?_;show _=_;rfl
           case r8o18=>
            intro w1 hG;intro va ha;change _=_ at ha;subst ha;intro vb hb;change _=_ at hb;subst hb;intro vc hc;change _=_ at hc;subst hc;intro vd hd;change _=_ at hd;subst hd;refine turn_off (by rfl) ?_;show _=_;rfl
           case r8o19=>
            intro w1 hG;intro va ha;change _=_ at ha;subst ha;intro vb hb;change _=_ at hb;subst hb;refine turn_off (by rfl) ?_;show _=_;rfl
           case r8o20=>
            intro w1 hG;intro va ha;change _=_ at ha;subst ha;intro vb hb;change _=_ at hb;subst hb;intro vc hc;change _=_ at hc;subst hc;refine turn_off (by rfl) ?_;show _=_;rfl
           case r8o21=>
            intro w1 hG;intro va ha;change _=_ at ha;subst ha;intro vb hb;change _=_ at hb;subst hb;refine t1o (by rfl) ?_;intro K hK;simp only [gv2];go_simp;refine hK _ _ ⟨rfl,Kept.refl _,?_⟩;show _=_;simp only [gv1];rfl
          intro w1 hG;intro v0 h0;change _=_ at h0;subst h0;intro v1 h1;change _=_ at h1;subst h1;intro v2 h2;change _=_ at h2;subst h2;intro v3 h3;change _=_ at h3;subst h3;intro v4 h4;change _=_ at h4;subst h4;intro v5 h5;change _=_ at h5;subst h5;intro v6 h6;change _=_ at h6;subst h6;intro v7 h7;change _=_ at h7;subst h7;intro v8 h8;change _=_ at h8;subst h8
          intro v9 h9;change _=_ at h9;subst h9;intro v10 h10;change _=_ at h10;subst h10;intro v11 h11;change _=_ at h11;subst h11;intro v12 h12;change _=_ at h12;subst h12;intro v13 h13;change _=_ at h13;subst h13;intro v14 h14;change _=_ at h14;subst h14;intro v15 h15;change _=_ at h15;subst h15;intro v16 h16;change _=_ at h16;subst h16;intro v17 h17;change _=_ at h17
          subst h17;intro v18 h18;change _=_ at h18;subst h18;intro v19 h19;change _=_ at h19;subst h19;intro v20 h20;change _=_ at h20;subst h20;intro v21 h21;change _=_ at h21;subst h21
          simp only [Given,gv2]
          have hbk:=kept_0 hG
          have BL5:=Lib.hid (Below.call BL4.out hbk)
          clear hG hbk
          have HDD:Hid (DD=true):=by show _=_;rw [HDI.out];rfl
          have HY2:Hid (y+1=(x+1)+(((BL.take (j+1)).filter (difB st.c.page (st.ms (k:Int)) (st2.ms (k:Int)))).length:Int)):=by show _=_;rw [HFT.out,HDD.out,HY.out,if_pos rfl];omega
          go_wp2_with fail
          go_roundw
          case rel=>exact ⟨j+1,y+1,by omega,by go_num,rfl,HY2.out,BL5.out⟩
          case measure=>simp [intOf] <;> omega
         | false=>
          refine' reg_free (G:=Kept) (pickF [eqV _,eqV _,eqV _,eqV _,eqV _,eqV _,eqV _,eqV _,eqV _,eqV _,(fun v w5=>∃ a m c,v=Value.slice a m c∧RdAt .u8 w5 a m c X),eqV (.string S1),eqV _,eqV _,eqV _,eqV _,eqV _,eqV _,(fun v w5=>∃ a m c,v=Value.slice a m c∧RdAt .u8 w5 a m c Y),eqV (.string S2),eqV (.bool (!F)),eqV _]) [100,101,102,103,104,105,106,107,108,109,110,111,112,113,114,115,116,117,118,119,120,121] [[],[],[0,1],[2],[3],[3],[3],[3],[3,6,7],[3,8],[3,4,5,9],[3,10],[3],[3],[3],[3],[3,14,15],[3,16],[3,12,13,17],[3,18],[3,11,19],[3,20]] [0,1,2,3,4,5,6,7,8,9,10,11,12,13,14,15,16,17,18,19,20,21] (by kernel_rfl) Kept.refl Kept.trans (pick_stays ⟨eS _,eS _,eS _,eS _,eS _,eS _,eS _,eS _,eS _,eS _,(fun _ _ _ p b=>by obtain ⟨a,m,c,e,h1⟩:=p;exact ⟨a,m,c,e,h1.below b⟩),eS _,eS _,eS _,eS _,eS _,eS _,eS _,(fun _ _ _ p b=>by obtain ⟨a,m,c,e,h1⟩:=p;exact ⟨a,m,c,e,h1.below b⟩),eS _,eS _,eS _,trivial⟩) 166 rfl (by kernel_rfl) (by kernel_rfl) rfl rfl ?r9obl ?r9fin
          case r9obl=>
           refine ⟨?r9o0,?r9o1,?r9o2,?r9o3,?r9o4,?r9o5,?r9o6,?r9o7,?r9o8,?r9o9,?r9o10,?r9o11,?r9o12,?r9o13,?r9o14,?r9o15,?r9o16,?r9o17,?r9o18,?r9o19,?r9o20,?r9o21,trivial⟩
           case r9o0 | r9o1=>
            intro w1 hG;refine t1o (by rfl) ?_;intro K hK;go_simp;refine hK _ _ ⟨rfl,Kept.refl _,?_⟩;show _=_;simp only [gv1];rfl
           case r9o2=>
            intro w1 hG;intro va ha;change _=_ at ha;subst ha;intro vb hb;change _=_ at hb;subst hb;refine t1o (by rfl) ?_;intro K hK;simp only [gv2];go_simp;refine hK _ _ ⟨rfl,Kept.refl _,?_⟩;show _=_;simp only [gv1];rfl
           case r9o3 | r9o4 | r9o5 | r9o6 | r9o7=>
            intro w1 hG;intro va ha;change _=_ at ha;subst ha;refine t1o (by rfl) ?_;intro K hK;simp only [gv2];go_simp;refine hK _ _ ⟨rfl,Kept.refl _,?_⟩;show _=_;simp only [gv1];rfl
           case r9o8=>
            intro w1 hG;intro va ha;change _=_ at ha;subst ha;intro vb hb;change _=_ at hb;subst hb;intro vc hc;change _=_ at hc;subst hc;refine t1o (by rfl) ?_;intro K hK;simp only [gv2];go_simp;refine hK _ _ ⟨rfl,Kept.refl _,?_⟩;show _=_;simp only [gv1];rfl
           case r9o9=>
            intro w1 hG;intro v3 h3;change _=_ at h3;subst h3;intro v8 h8;change _=_ at h8;subst h8;refine t1o (by rfl) ?_;intro K hK;simp only [gv2]
            have hc:=cel (kept_0 hG) HCY.out
            go_simp;refine hK _ _ ⟨rfl,Kept.refl _,?_⟩;show _=_;simp only [gv1];rfl
           case r9o10=>
            intro w1 hG;intro v3 h3;change _=_ at h3;subst h3;intro v4 h4;change _=_ at h4;subst h4;intro v5 h5;change _=_ at h5;subst h5;intro v9 h9;change _=_ at h9;subst h9;refine t1o (by rfl) ?_;intro K hK;simp only [gv2]
            have hbk:=kept_0 hG
            go_simp
            refine Calls.mono (rbytesOf_any (I5.out.below hbk) (k:Int) HQ1.out N) ?_
            rintro e w2 ⟨a,m,c,rfl,h1,hb2⟩
            rw [HXX.out] at h1
            refine hK _ _ ⟨rfl,hb2,?_⟩
            exact ⟨a,m,c,rfl,h1⟩
           case r9o11=>
            intro w1 hG;intro v3 h3;change _=_ at h3;subst h3;intro v10 h10
            obtain ⟨a10,m10,c10,rfl,h10⟩:=h10
            refine t1o (by rfl) ?_;intro K hK;simp only [gv2]
            refine wp_conv 111 rfl u8T s8 su _ rfl rfl h10 ?_
            refine hK _ _ ⟨rfl,Kept.refl _,?_⟩;rw [HS1.out];show _=_;simp only [gv1];rfl
           case r9o12 | r9o13 | r9o14 | r9o15=>
            intro w1 hG;intro va ha;change _=_ at ha;subst ha;refine t1o (by rfl) ?_;intro K hK;simp only [gv2];go_simp;refine hK _ _ ⟨rfl,Kept.refl _,?_⟩;show _=_;simp only [gv1];rfl
           case r9o16=>
            intro w1 hG;intro va ha;change _=_ at ha;subst ha;intro vb hb;change _=_ at hb;subst hb;intro vc hc;change _=_ at hc;subst hc;refine t1o (by rfl) ?_;intro K hK;simp only [gv2];go_simp;refine hK _ _ ⟨rfl,Kept.refl _,?_⟩;show _=_;simp only [gv1];rfl
           case r9o17=>
            intro w1 hG;intro v3 h3;change _=_ at h3;subst h3;intro v16 h16;change _=_ at h16;subst h16;refine t1o (by rfl) ?_;intro K hK;simp only [gv2]
            have hc:=cel (kept_0 hG) HCY.out
            go_simp;refine hK _ _ ⟨rfl,Kept.refl _,?_⟩;show _=_;simp only [gv1];rfl
           case r9o18=>
            intro w1 hG;intro v3 h3;change _=_ at h3;subst h3;intro v12 h12;change _=_ at h12;subst h12;intro v13 h13;change _=_ at h13;subst h13;intro v17 h17;change _=_ at h17;subst h17;refine t1o (by rfl) ?_;intro K hK;simp only [gv2]
            have hbk:=kept_0 hG
            go_simp
            refine Calls.mono (rbytesOf_any (J5.out.below hbk) (k:Int) HQ2.out N) ?_
            rintro e w2 ⟨a,m,c,rfl,h1,hb2⟩
            rw [HYY.out] at h1
            refine hK _ _ ⟨rfl,hb2,?_⟩
            exact ⟨a,m,c,rfl,h1⟩
           case r9o19=>
            intro w1 hG;intro v3 h3;change _=_ at h3;subst h3;intro v18 h18
            obtain ⟨a18,m18,c18,rfl,h18⟩:=h18
            refine t1o (by rfl) ?_;intro K hK;simp only [gv2]
            refine wp_conv 119 rfl u8T s8 su _ rfl rfl h18 ?_
            refine hK _ _ ⟨rfl,Kept.refl _,?_⟩;rw [HS2.out];show _=_;simp only [gv1];rfl
           case r9o20=>
            intro w1 hG;intro v3 h3;change _=_ at h3;subst h3;intro v11 h11;change _=_ at h11;subst h11;intro v19 h19;change _=_ at h19;subst h19;refine t1o (by rfl) ?_;intro K hK;simp only [gv2]
            have hsi:=HSI.out
            go_simp;refine hK _ _ ⟨rfl,Kept.refl _,?_⟩;show _=_;simp only [gv1]
           case r9o21=>
            intro w1 hG;intro va ha;change _=_ at ha;subst ha;intro vb hb;change _=_ at hb;subst hb;refine t1o (by rfl) ?_;intro K hK;simp only [gv2];go_simp;refine hK _ _ ⟨rfl,Kept.refl _,?_⟩;show _=_;simp only [gv1];rfl
          intro w1 hG;intro v0 h0;change _=_ at h0;subst h0;intro v1 h1;change _=_ at h1;subst h1;intro v2 h2;change _=_ at h2;subst h2;intro v3 h3;change _=_ at h3;subst h3;intro v4 h4;change _=_ at h4;subst h4;intro v5 h5;change _=_ at h5;subst h5;intro v6 h6;change _=_ at h6;subst h6;intro v7 h7;change _=_ at h7;subst h7;intro v8 h8;change _=_ at h8;subst h8
          intro v9 h9;change _=_ at h9;subst h9;intro v10 h10
          obtain ⟨a10,m10,c10,rfl,h10⟩:=h10
          intro v11 h11;change _=_ at h11;subst h11;intro v12 h12;change _=_ at h12;subst h12;intro v13 h13;change _=_ at h13;subst h13;intro v14 h14;change _=_ at h14;subst h14;intro v15 h15;change _=_ at h15;subst h15;intro v16 h16;change _=_ at h16;subst h16;intro v17 h17;change _=_ at h17;subst h17;intro v18 h18
          obtain ⟨a18,m18,c18,rfl,h18⟩:=h18
          intro v19 h19;change _=_ at h19;subst h19;intro v20 h20;change _=_ at h20;subst h20;intro v21 h21;change _=_ at h21;subst h21
          simp only [Given,gv2]
          have hbk:=kept_0 hG
          have BL5:=Lib.hid (Below.call BL4.out hbk)
          clear hG hbk h10 h18
          cases F with
          | true=>
           have HDD:Hid (DD=false):=by show _=_;rw [HDI.out];rfl
           have HY2:Hid (y=(x+1)+(((BL.take (j+1)).filter (difB st.c.page (st.ms (k:Int)) (st2.ms (k:Int)))).length:Int)):=by show _=_;rw [HFT.out,HDD.out,HY.out,if_neg (by decide)];omega
           go_wp2_with fail
           go_roundw
           case rel=>exact ⟨j+1,y,by omega,by go_num,rfl,HY2.out,BL5.out⟩
           case measure=>simp [intOf] <;> omega
          | false=>
           have HDD:Hid (DD=true):=by show _=_;rw [HDI.out];rfl
           have HY2:Hid (y+1=(x+1)+(((BL.take (j+1)).filter (difB st.c.page (st.ms (k:Int)) (st2.ms (k:Int)))).length:Int)):=by show _=_;rw [HFT.out,HDD.out,HY.out,if_pos rfl];omega
           go_wp2_with fail
           go_roundw
           case rel=>exact ⟨j+1,y+1,by omega,by go_num,rfl,HY2.out,BL5.out⟩
           case measure=>simp [intOf] <;> omega
       ·obtain rfl:j=n:=by omega
        have hfull:BL.take j=BL:=List.take_of_length_le (by rw [HN.out];omega)
        have HFIN:Hid (y=((dsum st st2 (k+1):Nat):Int)):=by
         show _=_;rw [HDS.out,HOD.out,HY.out,hfull,HCT.out,HX.out,if_neg (by decide)]
         omega
        clear hfull;go_wp2_with fail
        go_roundw
        case rel=>exact ⟨k+1,y,by omega,by go_num,rfl,HFIN.out,B3.out⟩
        case measure=>simp [intOf] <;> omega
  ·obtain rfl:k=st.pr:=by omega
   have HXT:Hid (x=(TT:Int)):=by show _=_;rw [HX.out,HTT.out]
   have dk:decide ((st.pr:Int) < (st.pr:Int))=false:=decide_eq_false (by omega)
   go_wp2_with fail
   go_ret
   rw [HXT.out]
   exact ⟨rfl,BR.out⟩
end
end Go.Proofs.YtnbjodoajfkekaaGreat
