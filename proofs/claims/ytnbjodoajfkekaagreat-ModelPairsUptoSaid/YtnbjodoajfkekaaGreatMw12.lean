/- How much two machines differ (Delta). How much two machines differ, plainly: the same from both sides; nothing where they are the same; at most what both weigh. A fork, plainly: how much it weighs; what another process does leaves one as it was. -/
import Derived.Test.YtnbjodoajfkekaaGreatMv0
import Derived.Test.YtnbjodoajfkekaaGreatMw10
import Derived.Test.YtnbjodoajfkekaaGreatMw11
import Derived.WalkKit
import Derived.ProofKit
import Derived.BigQuiet
import Derived.Deep.QuietTactic
import Derived.Lib.Hide
import Derived.RegionTactic
import Derived.Test.YtnbjodoajfkekaaGreatMv24
namespace Go.Proofs.YtnbjodoajfkekaaGreat
open Go.RowKit
set_option linter.unusedSimpArgs false
def oneE:Bool→Bool→Nat→Nat→Nat→Nat
 | true,true,x,_,_=>x
 | true,false,_,y,_=>y
 | false,true,_,_,z=>z
 | false,false,_,_,_=>0
def oneD (st st2:Mc) (p:Int):Nat:=
 oneE (st.has p) (st2.has p) ((if st.rs p=st2.rs p then 0 else 1)+unlM (st.ms p) (st2.ms p)) (1+(st.rs p).length+(st.ms p).length) (1+(st2.rs p).length+(st2.ms p).length)
def dsum (st st2:Mc):Nat→Nat
 | 0=>0
 | k+1=>dsum st st2 k+oneD st st2 (k:Int)
def deltaM (st st2:Mc):Nat:=dsum st st2 64
theorem unlM_le (L M:List (Int × List Int)):unlM L M≤L.length+M.length:=Nat.add_le_add (List.length_filter_le _ _) (List.length_filter_le _ _)
section
variable {No:Nat→Prop} {h h2:McH} {st st2:Mc} {w:World}
theorem oneD_le (i:McIn w No h st) (j:McIn w No h2 st2) (p:Int):oneD st st2 p≤200000:=by
 have h1:=i.few p
 have h2:=j.few p
 have h3:=i.ok.few p
 have h4:=j.ok.few p
 have h5:=unlM_le (st.ms p) (st2.ms p)
 unfold oneD
 cases st.has p <;> cases st2.has p <;> simp only [oneE]
 ·omega
 ·omega
 ·omega
 ·split <;> omega
theorem dsum_le (i:McIn w No h st) (j:McIn w No h2 st2):∀ k,dsum st st2 k≤k * 200000
 | 0=>Nat.le_refl _
 | k+1=>by
  have h1:=dsum_le i j k
  have h2:=oneD_le i j (k:Int)
  rw [dsum,Nat.succ_mul]
  omega
set_option maxHeartbeats 4000000 in
set_option maxRecDepth 100000 in
theorem delta_any (i:McIn w No h st) (j:McIn w No h2 st2):Calls Tryz.prog 27 #[.pointer (some ⟨h.m,0,none⟩),.pointer (some ⟨h2.m,0,none⟩)] w fun e w'=>e = .returned (.int .i64 ((deltaM st st2:Nat):Int))∧Below w.heap.size w w':=by
 obtain ⟨_,_,_,_,c9,c10,_⟩:=i.cells
 obtain ⟨_,_,_,_,d9,d10,_⟩:=j.cells
 have HI:=Lib.hid i;have HJ:=Lib.hid j
 have HDS:=Lib.hid (dsum_le i j)
 have HOD:=Lib.hid (oneD_le i j)
 have C9:=Lib.hid c9;have C10:=Lib.hid c10;have D9:=Lib.hid d9;have D10:=Lib.hid d10;clear i j c9 c10 d9 d10
 go_enter Tryz.func27,Tryz.ntmps27
 go_wp2_with fail
 go_loopw [5,9] (fun cv iv wr=>∃ k:Nat,k≤64∧iv = .int .i64 k∧cv = .int .i64 ((dsum st st2 k:Nat):Int)∧Hid (Below w.heap.size w wr)) (fun _ iv _=>64 - (intOf iv).toNat)
 case atStart=>exact ⟨0,by omega,rfl,rfl,Below.refl _ _⟩
 case round=>
  obtain ⟨k,hk,rfl,rfl,HB⟩:=hrel
  by_cases hlt:k < 64
  ·have dl:decide ((k:Int) < 64)=true:=decide_eq_true (by omega)
   have hdb:=HDS.out k
   have hdb2:=HDS.out (k+1)
   have hds:dsum st st2 (k+1)=dsum st st2 k+oneD st st2 (k:Int):=rfl
   obtain ⟨D,hD⟩:∃ x,dsum st st2 k=x:=⟨_,rfl⟩
   obtain ⟨D2,hD2⟩:∃ x,dsum st st2 (k+1)=x:=⟨_,rfl⟩
   rw [hD] at hds hdb ⊢;rw [hD2] at hds hdb2;have HD2:=Lib.hid hD2
   have hdb:D≤12800000:=by omega
   have hKW:Hid ((Lit.int .i64 (k:Int)).wf=true):=WalkArith.wf_i64 ⟨by omega,by omega⟩
   obtain ⟨A,hA⟩:∃ x,st.has (k:Int)=x:=⟨_,rfl⟩
   obtain ⟨B2,hB2⟩:∃ x,st2.has (k:Int)=x:=⟨_,rfl⟩
   have hod:=HOD.out (k:Int)
   have HIr:=Lib.hid (HI.out.below HB.out)
   have HJr:=Lib.hid (HJ.out.below HB.out)
   have hA':Hid (hasB st.c.procs st.v (k:Int)=A):=hA
   have hB2':Hid (hasB st2.c.procs st2.v (k:Int)=B2):=hB2
   have HDE:Hid (oneD st st2 (k:Int)=oneE A B2 ((if st.rs (k:Int)=st2.rs (k:Int) then 0 else 1)+unlM (st.ms (k:Int)) (st2.ms (k:Int))) (1+(st.rs (k:Int)).length+(st.ms (k:Int)).length) (1+(st2.rs (k:Int)).length+(st2.ms (k:Int)).length)):=by
    show _=_
    unfold oneD
    rw [hA,hB2]
   obtain ⟨OD,hOD⟩:∃ x,oneD st st2 (k:Int)=x:=⟨_,rfl⟩
   rw [hOD] at hds hod HDE;have HDS2:=Lib.hid hds
   have c9:=cel HB.out C9.out
   have d9:=cel HB.out D9.out
   clear hD hD2 hA hB2 hds hOD hdb2 hod;go_wp2_with fail
   refine' reg_free (G:=Kept) (pickF [eqV _,eqV _,eqV _,eqV _,eqV _,eqV _,eqV _,eqV _,eqV _,eqV _,eqV _,eqV _,eqV _,eqV _]) [12,13,14,15,16,17,18,19,20,21,22,23,7,8] [[],[0],[1],[2],[],[3,4],[],[6],[7],[8],[],[9,10],[5],[11]] [0,1,2,3,4,5,6,7,8,9,10,11,12,13] (by kernel_rfl) Kept.refl Kept.trans (pick_stays ⟨eS _,eS _,eS _,eS _,eS _,eS _,eS _,eS _,eS _,eS _,eS _,eS _,eS _,eS _,trivial⟩) 87 rfl (by kernel_rfl) (by kernel_rfl) rfl rfl ?r1obl ?r1fin
   case r1obl=>
    refine ⟨?r1o0,?r1o1,?r1o2,?r1o3,?r1o4,?r1o5,?r1o6,?r1o7,?r1o8,?r1o9,?r1o10,?r1o11,?r1o12,?r1o13,trivial⟩
    case r1o0 | r1o4 | r1o6 | r1o10=>
     intro w1 hG;refine t1o (by rfl) ?_;intro K hK;go_simp;refine hK _ _ ⟨rfl,Kept.refl _,?_⟩;show _=_;simp only [gv1];rfl
    case r1o1 | r1o2=>
     intro w1 hG;intro va ha;change _=_ at ha;subst ha;refine t1o (by rfl) ?_;intro K hK;simp only [gv2];go_simp;refine hK _ _ ⟨rfl,Kept.refl _,?_⟩;show _=_;simp only [gv1];rfl
    case r1o3=>
     intro w1 hG;intro v2 h2;change _=_ at h2;subst h2;refine t1o (by rfl) ?_;intro K hK;simp only [gv2]
     have hcc:=cel (kept_0 hG) c9
     go_simp;refine hK _ _ ⟨rfl,Kept.refl _,?_⟩;show _=_;simp only [gv1];rfl
    case r1o5=>
     intro w1 hG;intro v3 h3;change _=_ at h3;subst h3;intro v4 h4;change _=_ at h4;subst h4;refine t1o (by rfl) ?_;intro K hK;simp only [gv2];go_simp
     refine Calls.mono (has_any _ _ _ (k:Int) w1 (HIr.out.set.below (kept_0 hG)) HIr.out.ok.cf.procs.2) ?_
     rintro e w2 ⟨rfl,rfl⟩
     rw [hA'.out];refine hK _ _ ⟨rfl,Kept.refl _,?_⟩;show _=_;simp only [gv1];rfl
    case r1o7 | r1o8=>
     intro w1 hG;intro va ha;change _=_ at ha;subst ha;refine t1o (by rfl) ?_;intro K hK;simp only [gv2];go_simp;refine hK _ _ ⟨rfl,Kept.refl _,?_⟩;show _=_;simp only [gv1];rfl
    case r1o9=>
     intro w1 hG;intro v8 h8;change _=_ at h8;subst h8;refine t1o (by rfl) ?_;intro K hK;simp only [gv2]
     have hcc:=cel (kept_0 hG) d9
     go_simp;refine hK _ _ ⟨rfl,Kept.refl _,?_⟩;show _=_;simp only [gv1];rfl
    case r1o11=>
     intro w1 hG;intro v9 h9;change _=_ at h9;subst h9;intro v10 h10;change _=_ at h10;subst h10;refine t1o (by rfl) ?_;intro K hK;simp only [gv2];go_simp
     refine Calls.mono (has_any _ _ _ (k:Int) w1 (HJr.out.set.below (kept_0 hG)) HJr.out.ok.cf.procs.2) ?_
     rintro e w2 ⟨rfl,rfl⟩
     rw [hB2'.out];refine hK _ _ ⟨rfl,Kept.refl _,?_⟩;show _=_;simp only [gv1];rfl
    case r1o12 | r1o13=>
     intro w1 hG;intro va ha;change _=_ at ha;subst ha;refine t1o (by rfl) ?_;intro K hK;simp only [gv2];go_simp;refine hK _ _ ⟨rfl,Kept.refl _,?_⟩;show _=_;simp only [gv1];rfl
   intro w1 hG;intro v0 h0;change _=_ at h0;subst h0;intro v1 h1;change _=_ at h1;subst h1;intro v2 h2;change _=_ at h2;subst h2;intro v3 h3;change _=_ at h3;subst h3;intro v4 h4;change _=_ at h4;subst h4;intro v5 h5;change _=_ at h5;subst h5;intro v6 h6;change _=_ at h6;subst h6;intro v7 h7;change _=_ at h7;subst h7;intro v8 h8;change _=_ at h8;subst h8
   intro v9 h9;change _=_ at h9;subst h9;intro v10 h10;change _=_ at h10;subst h10;intro v11 h11;change _=_ at h11;subst h11;intro v12 h12;change _=_ at h12;subst h12;intro v13 h13;change _=_ at h13;subst h13
   simp only [Given,gv2]
   have hb5:=kept_0 hG
   have HB5:=Lib.hid (Below.call HB.out hb5)
   have HI5:=Lib.hid (HIr.out.below hb5)
   have HJ5:=Lib.hid (HJr.out.below hb5)
   have C10:=Lib.hid (cel HB5.out C10.out)
   have D10:=Lib.hid (cel HB5.out D10.out)
   obtain ⟨wC,hwC⟩:∃ x:World,x=w1:=⟨_,rfl⟩
   subst hwC
   obtain ⟨ra,rn,rc,hlk,hrr,_⟩:=HI5.out.lookRB (k:Int) hKW.out
   obtain ⟨sa,sn,sc,hlk2,hrr2,_⟩:=HJ5.out.lookRB (k:Int) hKW.out
   have HLK:=Lib.hid hlk;have HLK2:=Lib.hid hlk2
   have HRR:Hid (RdS Rg.cells 3 wC ra rn rc (st.rs (k:Int))):=hrr
   have HRR2:Hid (RdS Rg.cells 3 wC sa sn sc (st2.rs (k:Int))):=hrr2
   have hr1:rn≤32:=by have h1:=HRR.out.len;have h2:=HI.out.few (k:Int);omega
   have hr2:sn≤32:=by have h1:=HRR2.out.len;have h2:=HJ.out.few (k:Int);omega
   clear hG hb5 c9 d9 hlk hlk2 hrr hrr2
   cases A with
   | false=>
    cases B2 with
    | false=>
     have HF1:Hid (D=dsum st st2 (k+1)):=by show _=_;rw [HD2.out,HDS2.out,HDE.out];rfl
     go_wp2_with fail
     go_roundw
     case rel=>exact ⟨k+1,by omega,by go_num,by rw [← HF1.out],HB5⟩
     case measure=>simp [intOf] <;> omega
    | true=>
     obtain ⟨NX,hNX⟩:∃ x,(st2.ms (k:Int)).length=x:=⟨_,rfl⟩
     have hnx:NX≤65536:=by rw [← hNX];exact HJ.out.ok.few (k:Int)
     have HNX:=Lib.hid hNX
     have z1:IntKind.i64.wrap (1+(sn:Int))=1+(sn:Int):=by rw [IntKind.wrap_i64];omega
     have z2:IntKind.i64.wrap (1+(sn:Int)+(NX:Int))=1+(sn:Int)+(NX:Int):=by rw [IntKind.wrap_i64];omega
     have z3:IntKind.i64.wrap ((D:Int)+(1+(sn:Int)+(NX:Int)))=(D:Int)+(1+(sn:Int)+(NX:Int)):=by rw [IntKind.wrap_i64];omega
     have HF1:Hid ((D:Int)+(1+(sn:Int)+(NX:Int))=((dsum st st2 (k+1):Nat):Int)):=by
      show _=_;rw [HD2.out,HDS2.out,HDE.out]
      have h1:=HRR2.out.len
      have h2:=HNX.out
      simp only [oneE]
      omega
     clear hNX;go_wp2_with fail
     refine' reg_free (G:=Kept) (pickF [eqV _,eqV _,eqV _,eqV _,eqV _,eqV _,eqV _,eqV _,eqV _,eqV _,eqV _,(fun v w5=>∃ a c,v = .slice a NX c),eqV _,eqV _,eqV _,eqV _]) [70,71,72,73,74,75,76,77,78,79,80,81,82,83,84,5] [[],[],[1],[2],[3],[],[4,5],[6],[7],[],[],[9,10],[11],[8,12],[0,13],[14]] [0,1,2,3,4,5,6,7,8,9,10,11,12,13,14,15] (by kernel_rfl) Kept.refl Kept.trans (pick_stays ⟨eS _,eS _,eS _,eS _,eS _,eS _,eS _,eS _,eS _,eS _,eS _,(fun _ _ _ p b=>p),eS _,eS _,eS _,eS _,trivial⟩) 87 rfl (by kernel_rfl) (by kernel_rfl) rfl rfl ?r2obl ?r2fin
     case r2obl=>
      refine ⟨?r2o0,?r2o1,?r2o2,?r2o3,?r2o4,?r2o5,?r2o6,?r2o7,?r2o8,?r2o9,?r2o10,?r2o11,?r2o12,?r2o13,?r2o14,?r2o15,trivial⟩
      case r2o0 | r2o1 | r2o5 | r2o9 | r2o10=>
       intro w1 hG;refine t1o (by rfl) ?_;intro K hK;go_simp;refine hK _ _ ⟨rfl,Kept.refl _,?_⟩;show _=_;simp only [gv1];rfl
      case r2o2 | r2o3=>
       intro w1 hG;intro va ha;change _=_ at ha;subst ha;refine t1o (by rfl) ?_;intro K hK;simp only [gv2];go_simp;refine hK _ _ ⟨rfl,Kept.refl _,?_⟩;show _=_;simp only [gv1];rfl
      case r2o4=>
       intro w1 hG;intro v3 h3;change _=_ at h3;subst h3;refine t1o (by rfl) ?_;intro K hK;simp only [gv2]
       have hcc:=cel (kept_0 hG) D10.out
       go_simp;refine hK _ _ ⟨rfl,Kept.refl _,?_⟩;show _=_;simp only [gv1];rfl
      case r2o6=>
       intro w1 hG;intro v4 h4;change _=_ at h4;subst h4;intro v5 h5;change _=_ at h5;subst h5;refine t1o (by rfl) ?_;intro K hK;simp only [gv2]
       have hlk:=HLK2.out w1 (kept_0 hG)
       go_simp;refine hK _ _ ⟨rfl,Kept.refl _,?_⟩;show _=_;simp only [gv1];rfl
      case r2o7 | r2o8=>
       intro w1 hG;intro va ha;change _=_ at ha;subst ha;refine t1o (by rfl) ?_;intro K hK;simp only [gv2];go_simp;refine hK _ _ ⟨rfl,Kept.refl _,?_⟩;show _=_;simp only [gv1];rfl
      case r2o11=>
       intro w1 hG;intro v9 h9;change _=_ at h9;subst h9;intro v10 h10;change _=_ at h10;subst h10;refine t1o (by rfl) ?_;intro K hK;simp only [gv2];go_simp
       refine Calls.mono (stored_any (HJ5.out.below (kept_0 hG)) (k:Int)) ?_
       rintro e w2 ⟨vv,rfl,hov,hbx⟩
       refine hK _ _ ⟨rfl,hbx,?_⟩
       obtain ⟨a9,c9,rfl⟩:=hov.shapeN NX (by rw [List.length_map];exact HNX.out)
       exact ⟨_,_,rfl⟩
      case r2o12=>
       intro w1 hG;intro v11 h11
       obtain ⟨a11,c11,rfl⟩:=h11
       refine t1o (by rfl) ?_;intro K hK;simp only [gv2];go_simp;refine hK _ _ ⟨rfl,Kept.refl _,?_⟩;show _=_;simp only [gv1];rfl
      case r2o13 | r2o14=>
       intro w1 hG;intro va ha;change _=_ at ha;subst ha;intro vb hb;change _=_ at hb;subst hb;refine t1o (by rfl) ?_;intro K hK;simp only [gv2];go_simp;refine hK _ _ ⟨rfl,Kept.refl _,?_⟩;show _=_;simp only [gv1];rfl
      case r2o15=>
       intro w1 hG;intro va ha;change _=_ at ha;subst ha;refine t1o (by rfl) ?_;intro K hK;simp only [gv2];go_simp;refine hK _ _ ⟨rfl,Kept.refl _,?_⟩;show _=_;simp only [gv1];rfl
     intro w1 hG;intro v0 h0;change _=_ at h0;subst h0;intro v1 h1;change _=_ at h1;subst h1;intro v2 h2;change _=_ at h2;subst h2;intro v3 h3;change _=_ at h3;subst h3;intro v4 h4;change _=_ at h4;subst h4;intro v5 h5;change _=_ at h5;subst h5;intro v6 h6;change _=_ at h6;subst h6;intro v7 h7;change _=_ at h7;subst h7;intro v8 h8;change _=_ at h8;subst h8
     intro v9 h9;change _=_ at h9;subst h9;intro v10 h10;change _=_ at h10;subst h10;intro v11 h11
     obtain ⟨a11,c11,rfl⟩:=h11
     intro v12 h12;change _=_ at h12;subst h12;intro v13 h13;change _=_ at h13;subst h13;intro v14 h14;change _=_ at h14;subst h14;intro v15 h15;change _=_ at h15;subst h15
     simp only [Given,gv2]
     have HB7:=Lib.hid (Below.call HB5.out (kept_0 hG))
     clear hG z1 z2 z3;go_wp2_with fail
     go_roundw
     case rel=>exact ⟨k+1,by omega,by go_num,by rw [← HF1.out],HB7⟩
     case measure=>simp [intOf] <;> omega
   | true=>
    cases B2 with
    | false=>
     obtain ⟨NX,hNX⟩:∃ x,(st.ms (k:Int)).length=x:=⟨_,rfl⟩
     have hnx:NX≤65536:=by rw [← hNX];exact HI.out.ok.few (k:Int)
     have HNX:=Lib.hid hNX
     have z1:IntKind.i64.wrap (1+(rn:Int))=1+(rn:Int):=by rw [IntKind.wrap_i64];omega
     have z2:IntKind.i64.wrap (1+(rn:Int)+(NX:Int))=1+(rn:Int)+(NX:Int):=by rw [IntKind.wrap_i64];omega
     have z3:IntKind.i64.wrap ((D:Int)+(1+(rn:Int)+(NX:Int)))=(D:Int)+(1+(rn:Int)+(NX:Int)):=by rw [IntKind.wrap_i64];omega
     have HF1:Hid ((D:Int)+(1+(rn:Int)+(NX:Int))=((dsum st st2 (k+1):Nat):Int)):=by
      show _=_;rw [HD2.out,HDS2.out,HDE.out]
      have h1:=HRR.out.len
      have h2:=HNX.out
      simp only [oneE]
      omega
     clear hNX;go_wp2_with fail
     refine' reg_free (G:=Kept) (pickF [eqV _,eqV _,eqV _,eqV _,eqV _,eqV _,eqV _,eqV _,eqV _,eqV _,eqV _,(fun v w5=>∃ a c,v = .slice a NX c),eqV _,eqV _,eqV _,eqV _]) [53,54,55,56,57,58,59,60,61,62,63,64,65,66,67,5] [[],[],[1],[2],[3],[],[4,5],[6],[7],[],[],[9,10],[11],[8,12],[0,13],[14]] [0,1,2,3,4,5,6,7,8,9,10,11,12,13,14,15] (by kernel_rfl) Kept.refl Kept.trans (pick_stays ⟨eS _,eS _,eS _,eS _,eS _,eS _,eS _,eS _,eS _,eS _,eS _,(fun _ _ _ p b=>p),eS _,eS _,eS _,eS _,trivial⟩) 87 rfl (by kernel_rfl) (by kernel_rfl) rfl rfl ?r3obl ?r3fin
     case r3obl=>
      refine ⟨?r3o0,?r3o1,?r3o2,?r3o3,?r3o4,?r3o5,?r3o6,?r3o7,?r3o8,?r3o9,?r3o10,?r3o11,?r3o12,?r3o13,?r3o14,?r3o15,trivial⟩
      case r3o0 | r3o1 | r3o5 | r3o9 | r3o10=>
       intro w1 hG;refine t1o (by rfl) ?_;intro K hK;go_simp;refine hK _ _ ⟨rfl,Kept.refl _,?_⟩;show _=_;simp only [gv1];rfl
      case r3o2 | r3o3=>
       intro w1 hG;intro va ha;change _=_ at ha;subst ha;refine t1o (by rfl) ?_;intro K hK;simp only [gv2];go_simp;refine hK _ _ ⟨rfl,Kept.refl _,?_⟩;show _=_;simp only [gv1];rfl
      case r3o4=>
       intro w1 hG;intro v3 h3;change _=_ at h3;subst h3;refine t1o (by rfl) ?_;intro K hK;simp only [gv2]
       have hcc:=cel (kept_0 hG) C10.out
       go_simp;refine hK _ _ ⟨rfl,Kept.refl _,?_⟩;show _=_;simp only [gv1];rfl
      case r3o6=>
       intro w1 hG;intro v4 h4;change _=_ at h4;subst h4;intro v5 h5;change _=_ at h5;subst h5;refine t1o (by rfl) ?_;intro K hK;simp only [gv2]
       have hlk:=HLK.out w1 (kept_0 hG)
       go_simp;refine hK _ _ ⟨rfl,Kept.refl _,?_⟩;show _=_;simp only [gv1];rfl
      case r3o7 | r3o8=>
       intro w1 hG;intro va ha;change _=_ at ha;subst ha;refine t1o (by rfl) ?_;intro K hK;simp only [gv2];go_simp;refine hK _ _ ⟨rfl,Kept.refl _,?_⟩;show _=_;simp only [gv1];rfl
      case r3o11=>
       intro w1 hG;intro v9 h9;change _=_ at h9;subst h9;intro v10 h10;change _=_ at h10;subst h10;refine t1o (by rfl) ?_;intro K hK;simp only [gv2];go_simp
       refine Calls.mono (stored_any (HI5.out.below (kept_0 hG)) (k:Int)) ?_
       rintro e w2 ⟨vv,rfl,hov,hbx⟩
       refine hK _ _ ⟨rfl,hbx,?_⟩
       obtain ⟨a9,c9,rfl⟩:=hov.shapeN NX (by rw [List.length_map];exact HNX.out)
       exact ⟨_,_,rfl⟩
      case r3o12=>
       intro w1 hG;intro v11 h11
       obtain ⟨a11,c11,rfl⟩:=h11
       refine t1o (by rfl) ?_;intro K hK;simp only [gv2];go_simp;refine hK _ _ ⟨rfl,Kept.refl _,?_⟩;show _=_;simp only [gv1];rfl
      case r3o13 | r3o14=>
       intro w1 hG;intro va ha;change _=_ at ha;subst ha;intro vb hb;change _=_ at hb;subst hb;refine t1o (by rfl) ?_;intro K hK;simp only [gv2];go_simp;refine hK _ _ ⟨rfl,Kept.refl _,?_⟩;show _=_;simp only [gv1];rfl
      case r3o15=>
       intro w1 hG;intro va ha;change _=_ at ha;subst ha;refine t1o (by rfl) ?_;intro K hK;simp only [gv2];go_simp;refine hK _ _ ⟨rfl,Kept.refl _,?_⟩;show _=_;simp only [gv1];rfl
     intro w1 hG;intro v0 h0;change _=_ at h0;subst h0;intro v1 h1;change _=_ at h1;subst h1;intro v2 h2;change _=_ at h2;subst h2;intro v3 h3;change _=_ at h3;subst h3;intro v4 h4;change _=_ at h4;subst h4;intro v5 h5;change _=_ at h5;subst h5;intro v6 h6;change _=_ at h6;subst h6;intro v7 h7;change _=_ at h7;subst h7;intro v8 h8;change _=_ at h8;subst h8
     intro v9 h9;change _=_ at h9;subst h9;intro v10 h10;change _=_ at h10;subst h10;intro v11 h11
     obtain ⟨a11,c11,rfl⟩:=h11
     intro v12 h12;change _=_ at h12;subst h12;intro v13 h13;change _=_ at h13;subst h13;intro v14 h14;change _=_ at h14;subst h14;intro v15 h15;change _=_ at h15;subst h15
     simp only [Given,gv2]
     have HB7:=Lib.hid (Below.call HB5.out (kept_0 hG))
     clear hG z1 z2 z3;go_wp2_with fail
     go_roundw
     case rel=>exact ⟨k+1,by omega,by go_num,by rw [← HF1.out],HB7⟩
     case measure=>simp [intOf] <;> omega
    | true=>
     obtain ⟨QB,hQB⟩:∃ x,decide (st.rs (k:Int)=st2.rs (k:Int))=x:=⟨_,rfl⟩
     have HQB:=Lib.hid hQB;clear hQB;go_wp2_with fail
     refine' reg_free (G:=Kept) (pickF [eqV _,eqV _,eqV _,eqV _,eqV _,eqV _,eqV _,eqV _,eqV _,eqV _,eqV _,eqV _,eqV _,eqV _]) [29,30,31,32,33,34,35,36,37,38,39,40,41,42] [[],[0],[1],[2],[],[3,4],[],[6],[7],[8],[],[9,10],[5,11],[12]] [0,1,2,3,4,5,6,7,8,9,10,11,12,13] (by kernel_rfl) Kept.refl Kept.trans (pick_stays ⟨eS _,eS _,eS _,eS _,eS _,eS _,eS _,eS _,eS _,eS _,eS _,eS _,eS _,eS _,trivial⟩) 87 rfl (by kernel_rfl) (by kernel_rfl) rfl rfl ?r4obl ?r4fin
     case r4obl=>
      refine ⟨?r4o0,?r4o1,?r4o2,?r4o3,?r4o4,?r4o5,?r4o6,?r4o7,?r4o8,?r4o9,?r4o10,?r4o11,?r4o12,?r4o13,trivial⟩
      case r4o0 | r4o4 | r4o6 | r4o10=>
       intro w1 hG;refine t1o (by rfl) ?_;intro K hK;go_simp;refine hK _ _ ⟨rfl,Kept.refl _,?_⟩;show _=_;simp only [gv1];rfl
      case r4o1 | r4o2=>
       intro w1 hG;intro va ha;change _=_ at ha;subst ha;refine t1o (by rfl) ?_;intro K hK;simp only [gv2];go_simp;refine hK _ _ ⟨rfl,Kept.refl _,?_⟩;show _=_;simp only [gv1];rfl
      case r4o3=>
       intro w1 hG;intro v2 h2;change _=_ at h2;subst h2;refine t1o (by rfl) ?_;intro K hK;simp only [gv2]
       have hcc:=cel (kept_0 hG) C10.out
       go_simp;refine hK _ _ ⟨rfl,Kept.refl _,?_⟩;show _=_;simp only [gv1];rfl
      case r4o5=>
       intro w1 hG;intro v3 h3;change _=_ at h3;subst h3;intro v4 h4;change _=_ at h4;subst h4;refine t1o (by rfl) ?_;intro K hK;simp only [gv2]
       have hlk:=HLK.out w1 (kept_0 hG)
       go_simp;refine hK _ _ ⟨rfl,Kept.refl _,?_⟩;show _=_;simp only [gv1];rfl
      case r4o7 | r4o8=>
       intro w1 hG;intro va ha;change _=_ at ha;subst ha;refine t1o (by rfl) ?_;intro K hK;simp only [gv2];go_simp;refine hK _ _ ⟨rfl,Kept.refl _,?_⟩;show _=_;simp only [gv1];rfl
      case r4o9=>
       intro w1 hG;intro v8 h8;change _=_ at h8;subst h8;refine t1o (by rfl) ?_;intro K hK;simp only [gv2]
       have hcc:=cel (kept_0 hG) D10.out
       go_simp;refine hK _ _ ⟨rfl,Kept.refl _,?_⟩;show _=_;simp only [gv1];rfl
      case r4o11=>
       intro w1 hG;intro v9 h9;change _=_ at h9;subst h9;intro v10 h10;change _=_ at h10;subst h10;refine t1o (by rfl) ?_;intro K hK;simp only [gv2]
       have hlk:=HLK2.out w1 (kept_0 hG)
       go_simp;refine hK _ _ ⟨rfl,Kept.refl _,?_⟩;show _=_;simp only [gv1];rfl
      case r4o12=>
       intro w1 hG;intro v5 h5;change _=_ at h5;subst h5;intro v11 h11;change _=_ at h11;subst h11;refine t1o (by rfl) ?_;intro K hK;simp only [gv2];go_simp
       refine Calls.mono (equalR_any ra rn rc _ sa sn sc _ w1 (HRR.out.below (kept_0 hG)) (HRR2.out.below (kept_0 hG)) ⟨by omega,by omega⟩) ?_
       rintro e w2 ⟨rfl,hbx⟩
       rw [HQB.out]
       refine hK _ _ ⟨rfl,hbx,?_⟩
       show _=_;simp only [gv1];rfl
      case r4o13=>
       intro w1 hG;intro va ha;change _=_ at ha;subst ha;refine t1o (by rfl) ?_;intro K hK;simp only [gv2];go_simp;refine hK _ _ ⟨rfl,Kept.refl _,?_⟩;show _=_;simp only [gv1];rfl
     intro w1 hG;intro v0 h0;change _=_ at h0;subst h0;intro v1 h1;change _=_ at h1;subst h1;intro v2 h2;change _=_ at h2;subst h2;intro v3 h3;change _=_ at h3;subst h3;intro v4 h4;change _=_ at h4;subst h4;intro v5 h5;change _=_ at h5;subst h5;intro v6 h6;change _=_ at h6;subst h6;intro v7 h7;change _=_ at h7;subst h7;intro v8 h8;change _=_ at h8;subst h8
     intro v9 h9;change _=_ at h9;subst h9;intro v10 h10;change _=_ at h10;subst h10;intro v11 h11;change _=_ at h11;subst h11;intro v12 h12;change _=_ at h12;subst h12;intro v13 h13;change _=_ at h13;subst h13
     simp only [Given,gv2]
     have HB7:=Lib.hid (Below.call HB5.out (kept_0 hG))
     have HI7:=Lib.hid (HI5.out.below (kept_0 hG))
     have HJ7:=Lib.hid (HJ5.out.below (kept_0 hG))
     have HCU:=Lib.hid (unlike_any HI7.out HJ7.out (k:Int) hKW.out)
     have hub:=unlM_le (st.ms (k:Int)) (st2.ms (k:Int))
     have hub1:=HI.out.ok.few (k:Int)
     have hub2:=HJ.out.ok.few (k:Int)
     obtain ⟨U,hU⟩:∃ x,unlM (st.ms (k:Int)) (st2.ms (k:Int))=x:=⟨_,rfl⟩
     rw [hU] at HCU hub HDE
     have hub3:U≤131072:=by omega
     clear hG hub hub1 hub2 hU
     cases QB with
     | true=>
      have HF1:Hid (((D+U:Nat):Int)=((dsum st st2 (k+1):Nat):Int)):=by
       show _=_;rw [HD2.out,HDS2.out,HDE.out]
       have h1:=of_decide_eq_true HQB.out
       simp only [oneE]
       rw [if_pos h1]
       omega
      go_wp2_with fail
      refine HCU.out.mono ?_
      rintro e w9 ⟨rfl,hb9⟩
      have HB9:=Lib.hid (Below.call HB7.out hb9)
      clear hb9 HCU;go_wp2_with fail
      go_roundw
      case rel=>exact ⟨k+1,by omega,by go_num,by rw [← HF1.out];go_num,HB9⟩
      case measure=>simp [intOf] <;> omega
     | false=>
      have HF1:Hid (((D+1+U:Nat):Int)=((dsum st st2 (k+1):Nat):Int)):=by
       show _=_;rw [HD2.out,HDS2.out,HDE.out]
       have h1:=HQB.out
       rw [decide_eq_false_iff_not] at h1
       simp only [oneE]
       rw [if_neg h1]
       omega
      go_wp2_with fail
      refine HCU.out.mono ?_
      rintro e w9 ⟨rfl,hb9⟩
      have HB9:=Lib.hid (Below.call HB7.out hb9)
      clear hb9 HCU;go_wp2_with fail
      go_roundw
      case rel=>exact ⟨k+1,by omega,by go_num,by rw [← HF1.out];go_num,HB9⟩
      case measure=>simp [intOf] <;> omega
  ·obtain rfl:k=64:=by omega
   go_wp2
   go_ret
   exact ⟨rfl,HB.out⟩
end
def dU (M:List (Int × List Int)) (x:Int × List Int):Bool:=(kget M x.1).isSome && !decide (kget M x.1=some x.2)
theorem split_f (M:List (Int × List Int)):∀ L:List (Int × List Int),(L.filter (fU M)).length=(L.filter (gU M)).length+(L.filter (dU M)).length
 | []=>rfl
 | x :: r=>by
  have ih:=split_f M r
  rw [List.filter_cons,List.filter_cons,List.filter_cons]
  unfold fU gU dU at ih ⊢
  cases hk:kget M x.1 with
  | none=>simp;omega
  | some b=>
   by_cases e:b=x.2
   ·simp [e];omega
   ·simp [e];omega
theorem keys_nodup {L:List (Int × List Int)} (h:SrtP L) (f:Int × List Int→Bool):((L.filter f).map Prod.fst).Nodup:=by
 have h1:SrtP (L.filter f):=h.sublist List.filter_sublist
 exact h1.nodup
theorem d_symm {L M:List (Int × List Int)} (hL:SrtP L) (hM:SrtP M):(L.filter (dU M)).length=(M.filter (dU L)).length:=by
 have key:∀ {L M:List (Int × List Int)},SrtP L→SrtP M→∀ k,k ∈ (L.filter (dU M)).map Prod.fst→k ∈ (M.filter (dU L)).map Prod.fst:=fun {L M} hL hM k hk=>by
  obtain ⟨x,hx,rfl⟩:=List.mem_map.1 hk
  obtain ⟨h1,h2⟩:=List.mem_filter.1 hx
  unfold dU at h2
  cases hb:kget M x.1 with
  | none=>rw [hb] at h2;cases h2
  | some b=>
   rw [hb] at h2
   simp at h2
   refine List.mem_map.2 ⟨(x.1,b),List.mem_filter.2 ⟨kget_mem hb,?_⟩,rfl⟩
   unfold dU
   have h3:kget L x.1=some x.2:=(kget_iff hL).2 h1
   simp only
   rw [h3]
   simp
   exact fun e=>h2 e.symm
 have:=((List.perm_ext_iff_of_nodup (keys_nodup hL (dU M)) (keys_nodup hM (dU L))).2 (fun k=>⟨key hL hM k,key hM hL k⟩)).length_eq
 simpa using this
theorem unlM_symm {L M:List (Int × List Int)} (hL:SrtP L) (hM:SrtP M):unlM L M=unlM M L:=by
 unfold unlM
 rw [split_f M L,split_f L M,d_symm hL hM]
 omega
theorem unlM_self {L:List (Int × List Int)} (hL:SrtP L):unlM L L=0:=by
 unfold unlM
 have h:∀ x ∈ L,kget L x.1=some x.2:=fun x hx=>(kget_iff hL).2 hx
 rw [List.filter_eq_nil_iff.2 (fun x hx=>by unfold fU;rw [h x hx];simp),List.filter_eq_nil_iff.2 (fun x hx=>by unfold gU;rw [h x hx];simp)]
 rfl
section
variable {st st2:Mc}
theorem oneD_symm (h:McOk st) (h2:McOk st2) (p:Int):oneD st st2 p=oneD st2 st p:=by
 unfold oneD
 cases st.has p <;> cases st2.has p <;> simp only [oneE]
 rw [unlM_symm (h.srt p) (h2.srt p)]
 by_cases e:st.rs p=st2.rs p
 ·rw [if_pos e,if_pos e.symm]
 ·rw [if_neg e,if_neg (fun e2=>e e2.symm)]
theorem dsum_symm (h:McOk st) (h2:McOk st2):∀ k,dsum st st2 k=dsum st2 st k
 | 0=>rfl
 | k+1=>by rw [dsum,dsum,dsum_symm h h2 k,oneD_symm h h2]
theorem dsum_self (h:McOk st):∀ k,dsum st st k=0
 | 0=>rfl
 | k+1=>by
  rw [dsum,dsum_self h k]
  unfold oneD
  cases st.has (k:Int) <;> simp only [oneE]
  rw [if_pos trivial,unlM_self (h.srt _)]
theorem deltaM_self (h:McOk st):deltaM st st=0:=dsum_self h 64
end
end Go.Proofs.YtnbjodoajfkekaaGreat
