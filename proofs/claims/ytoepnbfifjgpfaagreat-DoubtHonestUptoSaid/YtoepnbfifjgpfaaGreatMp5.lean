/- The document's machine: what an operation is refused for (Check). Plain: which pages stay behind an operation that turns a process' regions. Plain: a step keeps what a machine's state is. The document's machine: while an operation is done. The document's machine: a byte loaded, a page's bytes (load, Bytes). -/
import Derived.Test.YtoepnbfifjgpfaaGreatMu0
import Derived.Test.YtoepnbfifjgpfaaGreatMp3
import Derived.Test.YtoepnbfifjgpfaaGreatMp4
import Derived.Test.YtoepnbfifjgpfaaGreatMu24
import Derived.WalkKit
import Derived.ProofKit
import Derived.BigQuiet
import Derived.Deep.QuietTactic
import Derived.Lib.Hide
import Derived.RegionTactic
import Derived.Test.YtoepnbfifjgpfaaGreatMp1
import Derived.Test.YtoepnbfifjgpfaaGreatMp2
import Derived.Test.YtoepnbfifjgpfaaGreatMu16
namespace Go.Proofs.YtoepnbfifjgpfaaGreat
set_option maxRecDepth 100000
open Go.RowKit
set_option linter.unusedSimpArgs false
section
variable {No:Nat→Prop} {h:RmH} {st:Mc} {w:World}
set_option maxHeartbeats 4000000 in
theorem rcheck_any (i:RmIn w No h st) (o:Opn) (a:Option Addr) (dn dc:Nat) (hp:(Lit.int .i64 o.pid).wf=true) (hk:(Lit.int .i64 o.at_).wf=true) (hn:(Lit.int .i64 o.n).wf=true) (hd:o.data.length=dn) (hdl:dn≤9223372036854775807) :
  Calls Tryz.prog 27 #[.pointer (some ⟨h.m,0,none⟩),.agg #[.int .i64 o.kind,.int .i64 o.pid,.int .i64 o.at_,.int .i64 o.n,.int .i64 o.prot,.slice a dn dc]] w fun e w'=>e = .returned (.int .i64 (checkE st o))∧Below w.heap.size w w':=by
 obtain ⟨kd,pid,ad,n,pr,d⟩:=o
 dsimp only at hp hk hn hd ⊢
 have hrow:=heap_alloc_new w (.cells #[.int .i64 kd,.int .i64 pid,.int .i64 ad,.int .i64 n,.int .i64 pr,.slice a dn dc] 39)
 have hba:=below_a w (.cells #[.int .i64 kd,.int .i64 pid,.int .i64 ad,.int .i64 n,.int .i64 pr,.slice a dn dc] 39)
 have i1:=i.below hba
 obtain ⟨c4,c6,c7,c8,c9,c10⟩:=i1.cells
 have HI:=Lib.hid i;have HB0:=Lib.hid hba;have HP:=Lib.hid hp;have HK:=Lib.hid hk;have HN:=Lib.hid hn;have HD:=Lib.hid hd;have HDL:=Lib.hid hdl;have HPL:=Lib.hid i.ok.prL.2;have HPI:=Lib.hid i.ok.prI
 obtain ⟨sc,zs,hset⟩:=i.set
 have HSET:=Lib.hid hset
 obtain ⟨CE,hCE⟩:∃ x,checkE st ⟨kd,pid,ad,n,pr,d⟩=x:=⟨_,rfl⟩
 rw [hCE];have HCE:=Lib.hid hCE
 obtain ⟨NP,hNP⟩:∃ x,(pidsK st.v st.pr).length=x:=⟨_,rfl⟩
 obtain ⟨PR,hPR⟩:∃ x,st.c.procs=x:=⟨_,rfl⟩
 have HFU:Hid (st.full=if (NP:Int)=PR then 5 else 0):=by
  show st.full=_
  unfold Mc.full
  rw [hNP,hPR]
 have HNP:=Lib.hid hNP;rw [hPR] at c6
 obtain ⟨o0,o1,o2,o3,o4,o5⟩:=cells6 hrow
 clear hCE hNP hPR hrow hba i i1 hp hk hn hd hdl hset c4 c7 c8
 have HCR:=Lib.hid (oprefright_any (dc:=dc) (w:=w.alloc (.cells #[.int .i64 kd,.int .i64 pid,.int .i64 ad,.int .i64 n,.int .i64 pr,.slice a dn dc] 39)) a dn ⟨kd,pid,ad,n,pr,d⟩ HD.out)
 go_enter Tryz.func27,Tryz.ntmps27
 go_wp2_with fail
 refine HCR.out.mono ?_
 rintro e w1 ⟨rfl,hb1⟩
 replace o0:w1.cell? _=_:=cel hb1 o0
 replace o1:w1.cell? _=_:=cel hb1 o1
 replace o2:w1.cell? _=_:=cel hb1 o2
 replace o3:w1.cell? _=_:=cel hb1 o3
 replace o4:w1.cell? _=_:=cel hb1 o4
 replace o5:w1.cell? _=_:=cel hb1 o5
 replace c6:w1.cell? _=_:=cel hb1 c6
 replace c9:w1.cell? _=_:=cel hb1 c9
 replace c10:w1.cell? _=_:=cel hb1 c10
 have HB1:=Lib.hid (Below.call HB0.out hb1)
 clear hb1 HCR
 cases hR:rightOp ⟨kd,pid,ad,n,pr,d⟩ with
 | false=>
  go_wp2
  go_ret
  exact ⟨by rw [← HCE.out];simp [checkE,hR],HB1.out⟩
 | true=>
  have HR:=Lib.hid hR;clear hR
  by_cases h9:kd=9
  ·subst h9
   go_wp2
   go_ret
   exact ⟨by rw [← HCE.out];simp [checkE,HR.out],HB1.out⟩
  have d9:decide (kd=9)=false:=decide_eq_false h9
  have b9:(kd == 9)=false:=by simpa using h9
  by_cases h1:kd=1
  ·subst h1
   go_wp2_with fail
   refine' reg_free (G:=Kept) (pickF [eqV _,eqV _,eqV _,eqV _,(fun v w5=>∃ a c,v = .slice a NP c),eqV _,eqV _,eqV _,eqV _,eqV _,eqV _,eqV _]) [17,18,19,20,21,22,23,24,25,26,27,28] [[],[0],[1],[2],[3],[4],[],[6],[7],[8],[9],[5,10]] [0,1,2,3,4,5,6,7,8,9,10,11] (by kernel_rfl) Kept.refl Kept.trans (pick_stays ⟨eS _,eS _,eS _,eS _,(fun _ _ _ p b=>p),eS _,eS _,eS _,eS _,eS _,eS _,eS _,trivial⟩) 92 rfl (by kernel_rfl) (by kernel_rfl) rfl rfl ?r1obl ?r1fin
   case r1obl=>
    refine ⟨?r1o0,?r1o1,?r1o2,?r1o3,?r1o4,?r1o5,?r1o6,?r1o7,?r1o8,?r1o9,?r1o10,?r1o11,trivial⟩
    case r1o0 | r1o6=>
     intro w3 hG;refine t1o (by rfl) ?_;intro K hK;go_simp;refine hK _ _ ⟨rfl,Kept.refl _,?_⟩;show _=_;simp only [gv1];rfl
    case r1o1 | r1o2=>
     intro w3 hG;intro va ha;change _=_ at ha;subst ha;refine t1o (by rfl) ?_;intro K hK;simp only [gv2];go_simp;refine hK _ _ ⟨rfl,Kept.refl _,?_⟩;show _=_;simp only [gv1];rfl
    case r1o3=>
     intro w3 hG;intro v2 h2;change _=_ at h2;subst h2;refine t1o (by rfl) ?_;intro K hK;simp only [gv2]
     have hGB:=kept_0 hG
     have hc:=cel hGB c9
     go_simp;refine hK _ _ ⟨rfl,Kept.refl _,?_⟩;show _=_;simp only [gv1];rfl
    case r1o4=>
     intro w3 hG;intro v3 h3;change _=_ at h3;subst h3;refine t1o (by rfl) ?_;intro K hK;simp only [gv2];go_simp
     refine Calls.mono (crlist_any h.s h.sl st.pr st.v w3 (HSET.out.below (Below.call HB1.out (kept_0 hG))) HPL.out) ?_
     rintro e w2 ⟨vv,rfl,hov,hbx⟩
     refine hK _ _ ⟨rfl,hbx,?_⟩
     obtain ⟨a9,c9',rfl⟩:=hov.shapeN NP HNP.out
     exact ⟨_,_,rfl⟩
    case r1o5=>
     intro w3 hG;intro v4 h4
     obtain ⟨al,cl,rfl⟩:=h4
     refine t1o (by rfl) ?_;intro K hK;simp only [gv2];go_simp;refine hK _ _ ⟨rfl,Kept.refl _,?_⟩;show _=_;simp only [gv1];rfl
    case r1o7 | r1o8 | r1o9=>
     intro w3 hG;intro va ha;change _=_ at ha;subst ha;refine t1o (by rfl) ?_;intro K hK;simp only [gv2];go_simp;refine hK _ _ ⟨rfl,Kept.refl _,?_⟩;show _=_;simp only [gv1];rfl
    case r1o10=>
     intro w3 hG;intro v9 h9;change _=_ at h9;subst h9;refine t1o (by rfl) ?_;intro K hK;simp only [gv2]
     have hGB:=kept_0 hG
     have hc:=cel hGB c6
     go_simp;refine hK _ _ ⟨rfl,Kept.refl _,?_⟩;show _=_;simp only [gv1];rfl
    case r1o11=>
     intro w3 hG;intro va ha;change _=_ at ha;subst ha;intro vb hb;change _=_ at hb;subst hb;refine t1o (by rfl) ?_;intro K hK;simp only [gv2];go_simp;refine hK _ _ ⟨rfl,Kept.refl _,?_⟩;show _=_;simp only [gv1];rfl
   intro w3 hG;intro v0 h0;change _=_ at h0;subst h0;intro v1 h1;change _=_ at h1;subst h1;intro v2 h2;change _=_ at h2;subst h2;intro v3 h3;change _=_ at h3;subst h3;intro v4 h4
   obtain ⟨al,cl,rfl⟩:=h4
   intro v5 h5;change _=_ at h5;subst h5;intro v6 h6;change _=_ at h6;subst h6;intro v7 h7;change _=_ at h7;subst h7;intro v8 h8;change _=_ at h8;subst h8;intro v9 h9;change _=_ at h9;subst h9;intro v10 h10;change _=_ at h10;subst h10;intro v11 h11;change _=_ at h11;subst h11
   simp only [Given,gv2]
   have HB3:=Lib.hid (Below.call HB1.out (kept_0 hG))
   clear hG
   by_cases hf:(NP:Int)=PR
   ·have bf:((NP:Int) == PR)=true:=by simpa using hf
    have HF:Hid (st.full=5):=by show st.full=5;rw [HFU.out,if_pos hf]
    clear hf
    go_wp2
    go_ret
    exact ⟨by rw [← HCE.out];simp [checkE,HR.out,HF.out],HB3.out⟩
   ·have bf:((NP:Int) == PR)=false:=by simpa using hf
    have HF:Hid (st.full=0):=by show st.full=0;rw [HFU.out,if_neg hf]
    clear hf
    go_wp2
    go_ret
    exact ⟨by rw [← HCE.out];simp [checkE,HR.out,HF.out],HB3.out⟩
  have d1:decide (kd=1)=false:=decide_eq_false h1
  have b1:(kd == 1)=false:=by simpa using h1
  go_wp2_with fail
  refine' reg_free (G:=Kept) (pickF [eqV _,eqV _,eqV _,eqV _,eqV _,eqV _,eqV _,eqV _]) [29,30,31,32,33,34,35,36] [[],[0],[1],[2],[],[4],[3,5],[6]] [0,1,2,3,4,5,6,7] (by kernel_rfl) Kept.refl Kept.trans (pick_stays ⟨eS _,eS _,eS _,eS _,eS _,eS _,eS _,eS _,trivial⟩) 92 rfl (by kernel_rfl) (by kernel_rfl) rfl rfl ?r2obl ?r2fin
  case r2obl=>
   refine ⟨?r2o0,?r2o1,?r2o2,?r2o3,?r2o4,?r2o5,?r2o6,?r2o7,trivial⟩
   case r2o0 | r2o4=>
    intro w3 hG;refine t1o (by rfl) ?_;intro K hK;go_simp;refine hK _ _ ⟨rfl,Kept.refl _,?_⟩;show _=_;simp only [gv1];rfl
   case r2o1 | r2o2=>
    intro w3 hG;intro va ha;change _=_ at ha;subst ha;refine t1o (by rfl) ?_;intro K hK;simp only [gv2];go_simp;refine hK _ _ ⟨rfl,Kept.refl _,?_⟩;show _=_;simp only [gv1];rfl
   case r2o3=>
    intro w3 hG;intro v2 h2;change _=_ at h2;subst h2;refine t1o (by rfl) ?_;intro K hK;simp only [gv2]
    have hGB:=kept_0 hG
    have hc:=cel hGB c9
    go_simp;refine hK _ _ ⟨rfl,Kept.refl _,?_⟩;show _=_;simp only [gv1];rfl
   case r2o5=>
    intro w3 hG;intro v4 h4;change _=_ at h4;subst h4;refine t1o (by rfl) ?_;intro K hK;simp only [gv2]
    have hGB:=kept_0 hG
    have hc:=cel hGB o1
    go_simp;refine hK _ _ ⟨rfl,Kept.refl _,?_⟩;show _=_;simp only [gv1];rfl
   case r2o6=>
    intro w3 hG;intro v3 h3;change _=_ at h3;subst h3;intro v5 h5;change _=_ at h5;subst h5;refine t1o (by rfl) ?_;intro K hK;simp only [gv2];go_simp
    refine Calls.mono (crhas_any h.s h.sl st.pr st.v pid w3 (HSET.out.below (Below.call HB1.out (kept_0 hG)))) ?_
    rintro e w4 ⟨rfl,rfl⟩
    refine hK _ _ ⟨rfl,Kept.refl _,?_⟩;show _=_;simp only [gv1];rfl
   case r2o7=>
    intro w3 hG;intro va ha;change _=_ at ha;subst ha;refine t1o (by rfl) ?_;intro K hK;simp only [gv2];go_simp;refine hK _ _ ⟨rfl,Kept.refl _,?_⟩;show _=_;simp only [gv1];rfl
  intro w3 hG;intro v0 h0;change _=_ at h0;subst h0;intro v1 h1;change _=_ at h1;subst h1;intro v2 h2;change _=_ at h2;subst h2;intro v3 h3;change _=_ at h3;subst h3;intro v4 h4;change _=_ at h4;subst h4;intro v5 h5;change _=_ at h5;subst h5;intro v6 h6;change _=_ at h6;subst h6;intro v7 h7;change _=_ at h7;subst h7
  simp only [Given,gv2]
  have hGB:=kept_0 hG
  clear hG
  replace o0:w3.cell? _=_:=cel hGB o0
  replace o1:w3.cell? _=_:=cel hGB o1
  replace o2:w3.cell? _=_:=cel hGB o2
  replace o3:w3.cell? _=_:=cel hGB o3
  replace o4:w3.cell? _=_:=cel hGB o4
  replace o5:w3.cell? _=_:=cel hGB o5
  replace c6:w3.cell? _=_:=cel hGB c6
  replace c9:w3.cell? _=_:=cel hGB c9
  replace c10:w3.cell? _=_:=cel hGB c10
  have HB2:=Lib.hid (Below.call HB1.out hGB)
  clear hGB
  cases hH:hasB (st.pr:Int) st.v pid with
  | false=>
   have HH:Hid (st.has pid=false):=by show st.has pid=false;unfold Mc.has;rw [← HPI.out];exact hH
   clear hH
   go_wp2
   go_ret
   exact ⟨by rw [← HCE.out];simp [checkE,HR.out,h9,h1,HH.out],HB2.out⟩
  | true=>
   have HH:Hid (st.has pid=true):=by show st.has pid=true;unfold Mc.has;rw [← HPI.out];exact hH
   clear hH
   have HI2:=Lib.hid (HI.out.below HB2.out)
   obtain ⟨k,hkk,hkp,hptr⟩:=HI2.out.ptr HH.out
   obtain ⟨BB,hBB⟩:∃ x,(h.pr pid).b=x:=⟨_,rfl⟩
   rw [hBB] at hptr;have HBB:=Lib.hid hBB;have HKK:=Lib.hid hkk;rw [hkk] at o1
   have hpr64:=HPL.out
   obtain ⟨NPR,hNPR⟩:∃ x,st.pr=x:=⟨_,rfl⟩
   rw [hNPR] at c10 hkp hpr64;clear hkk hBB hNPR;go_wp2_with fail;go_quiet (fail)
   rename_i nq
   have hbN:Below w3.heap.size w3 (w3.drewN nq):=⟨rfl,rfl,rfl,Nat.le_refl _,fun _ _=>rfl⟩
   replace o0:(w3.drewN nq).cell? _=_:=cel hbN o0
   replace o1:(w3.drewN nq).cell? _=_:=cel hbN o1
   replace o2:(w3.drewN nq).cell? _=_:=cel hbN o2
   replace o3:(w3.drewN nq).cell? _=_:=cel hbN o3
   replace o4:(w3.drewN nq).cell? _=_:=cel hbN o4
   replace o5:(w3.drewN nq).cell? _=_:=cel hbN o5
   replace c6:(w3.drewN nq).cell? _=_:=cel hbN c6
   replace c9:(w3.drewN nq).cell? _=_:=cel hbN c9
   replace c10:(w3.drewN nq).cell? _=_:=cel hbN c10
   have HB3:=Lib.hid (Below.call HB2.out hbN)
   have HI3:=Lib.hid (HI2.out.below hbN)
   rw [← HKK.out] at o1
   generalize w3.drewN nq=wn at *
   clear hbN hptr c10 hkp hpr64
   by_cases h2:kd=2
   ·subst h2
    go_wp2_with fail
    have hcb:=rregs_2 HI3.out pid HH.out pid ad n pr d a dn dc HK.out HN.out
    rw [HBB.out] at hcb
    refine hcb.mono ?_
    clear hcb
    rintro e w4 ⟨va,vn,vc,rfl,_,hb4⟩
    have HB4:=Lib.hid (Below.call HB3.out hb4)
    clear hb4
    go_wp2
    go_ret
    exact ⟨by rw [← HCE.out];simp [checkE,HR.out,HH.out],HB4.out⟩
   have d2:decide (kd=2)=false:=decide_eq_false h2
   have b2:(kd == 2)=false:=by simpa using h2
   by_cases h3:kd=3
   ·subst h3
    go_wp2_with fail
    have hcb:=rregs_3 HI3.out pid HH.out pid ad n pr d a dn dc HK.out HN.out
    rw [HBB.out] at hcb
    refine hcb.mono ?_
    clear hcb
    rintro e w4 ⟨va,vn,vc,rfl,_,hb4⟩
    have HB4:=Lib.hid (Below.call HB3.out hb4)
    clear hb4
    go_wp2
    go_ret
    exact ⟨by rw [← HCE.out];simp [checkE,HR.out,HH.out],HB4.out⟩
   have d3:decide (kd=3)=false:=decide_eq_false h3
   have b3:(kd == 3)=false:=by simpa using h3
   by_cases h4:kd=4
   ·subst h4
    go_wp2_with fail
    have hcb:=rregs_4 HI3.out pid HH.out pid ad n pr d a dn dc HK.out HN.out
    rw [HBB.out] at hcb
    refine hcb.mono ?_
    clear hcb
    rintro e w4 ⟨va,vn,vc,rfl,_,hb4⟩
    have HB4:=Lib.hid (Below.call HB3.out hb4)
    clear hb4
    go_wp2
    go_ret
    exact ⟨by rw [← HCE.out];simp [checkE,HR.out,HH.out],HB4.out⟩
   have d4:decide (kd=4)=false:=decide_eq_false h4
   have b4:(kd == 4)=false:=by simpa using h4
   by_cases h5:kd=5
   ·have b5:(kd == 5)=true:=by simpa using h5
    go_wp2_with fail
    have hcb:=rbytesE_any HI3.out pid HH.out ad n 1 HK.out HN.out
    rw [HBB.out] at hcb
    refine hcb.mono ?_
    clear hcb
    rintro e w4 ⟨rfl,hb4⟩
    have HB4:=Lib.hid (Below.call HB3.out hb4)
    clear hb4
    go_wp2
    go_ret
    exact ⟨by rw [← HCE.out];have hr:=HR.out;subst h5;simp [checkE,hr,HH.out],HB4.out⟩
   have d5:decide (kd=5)=false:=decide_eq_false h5
   have b5:(kd == 5)=false:=by simpa using h5
   by_cases h6:kd=6
   ·have b6:(kd == 6)=true:=by simpa using h6
    go_wp2_with fail
    have hcb:=rbytesE_any HI3.out pid HH.out ad dn 2 HK.out (WalkArith.wf_i64 ⟨by omega,by have:=HDL.out;omega⟩)
    rw [HBB.out] at hcb
    refine hcb.mono ?_
    clear hcb
    rintro e w4 ⟨rfl,hb4⟩
    have HB4:=Lib.hid (Below.call HB3.out hb4)
    clear hb4
    go_wp2
    go_ret
    exact ⟨by rw [← HCE.out];have hr:=HR.out;subst h6;simp [checkE,hr,HH.out,HD.out],HB4.out⟩
   have d6:decide (kd=6)=false:=decide_eq_false h6
   have b6:(kd == 6)=false:=by simpa using h6
   by_cases h7:kd=7
   ·have b7:(kd == 7)=true:=by simpa using h7
    go_wp2_with fail
    refine' reg_free (G:=Kept) (pickF [eqV _,eqV _,eqV _,eqV _,(fun v w5=>∃ a c,v = .slice a NP c),eqV _,eqV _,eqV _,eqV _,eqV _,eqV _,eqV _]) [80,81,82,83,84,85,86,87,88,89,90,91] [[],[0],[1],[2],[3],[4],[],[6],[7],[8],[9],[5,10]] [0,1,2,3,4,5,6,7,8,9,10,11] (by kernel_rfl) Kept.refl Kept.trans (pick_stays ⟨eS _,eS _,eS _,eS _,(fun _ _ _ p b=>p),eS _,eS _,eS _,eS _,eS _,eS _,eS _,trivial⟩) 92 rfl (by kernel_rfl) (by kernel_rfl) rfl rfl ?r3obl ?r3fin
    case r3obl=>
     refine ⟨?r3o0,?r3o1,?r3o2,?r3o3,?r3o4,?r3o5,?r3o6,?r3o7,?r3o8,?r3o9,?r3o10,?r3o11,trivial⟩
     case r3o0 | r3o6=>
      intro w5 hG;refine t1o (by rfl) ?_;intro K hK;go_simp;refine hK _ _ ⟨rfl,Kept.refl _,?_⟩;show _=_;simp only [gv1];rfl
     case r3o1 | r3o2=>
      intro w5 hG;intro va ha;change _=_ at ha;subst ha;refine t1o (by rfl) ?_;intro K hK;simp only [gv2];go_simp;refine hK _ _ ⟨rfl,Kept.refl _,?_⟩;show _=_;simp only [gv1];rfl
     case r3o3=>
      intro w5 hG;intro v2 h2;change _=_ at h2;subst h2;refine t1o (by rfl) ?_;intro K hK;simp only [gv2]
      have hGB:=kept_0 hG
      have hc:=cel hGB c9
      go_simp;refine hK _ _ ⟨rfl,Kept.refl _,?_⟩;show _=_;simp only [gv1];rfl
     case r3o4=>
      intro w5 hG;intro v3 h3;change _=_ at h3;subst h3;refine t1o (by rfl) ?_;intro K hK;simp only [gv2];go_simp
      refine Calls.mono (crlist_any h.s h.sl st.pr st.v w5 (HSET.out.below (Below.call HB3.out (kept_0 hG))) HPL.out) ?_
      rintro e w2 ⟨vv,rfl,hov,hbx⟩
      refine hK _ _ ⟨rfl,hbx,?_⟩
      obtain ⟨a9,c9',rfl⟩:=hov.shapeN NP HNP.out
      exact ⟨_,_,rfl⟩
     case r3o5=>
      intro w5 hG;intro v4 h4
      obtain ⟨al,cl,rfl⟩:=h4
      refine t1o (by rfl) ?_;intro K hK;simp only [gv2];go_simp;refine hK _ _ ⟨rfl,Kept.refl _,?_⟩;show _=_;simp only [gv1];rfl
     case r3o7 | r3o8 | r3o9=>
      intro w5 hG;intro va ha;change _=_ at ha;subst ha;refine t1o (by rfl) ?_;intro K hK;simp only [gv2];go_simp;refine hK _ _ ⟨rfl,Kept.refl _,?_⟩;show _=_;simp only [gv1];rfl
     case r3o10=>
      intro w5 hG;intro v9 h9;change _=_ at h9;subst h9;refine t1o (by rfl) ?_;intro K hK;simp only [gv2]
      have hGB:=kept_0 hG
      have hc:=cel hGB c6
      go_simp;refine hK _ _ ⟨rfl,Kept.refl _,?_⟩;show _=_;simp only [gv1];rfl
     case r3o11=>
      intro w5 hG;intro va ha;change _=_ at ha;subst ha;intro vb hb;change _=_ at hb;subst hb;refine t1o (by rfl) ?_;intro K hK;simp only [gv2];go_simp;refine hK _ _ ⟨rfl,Kept.refl _,?_⟩;show _=_;simp only [gv1];rfl
    intro w5 hG;intro v0 h0;change _=_ at h0;subst h0;intro v1 h1;change _=_ at h1;subst h1;intro v2 h2;change _=_ at h2;subst h2;intro v3 h3;change _=_ at h3;subst h3;intro v4 h4
    obtain ⟨al,cl,rfl⟩:=h4
    intro v5 h5;change _=_ at h5;subst h5;intro v6 h6;change _=_ at h6;subst h6;intro v7 h7;change _=_ at h7;subst h7;intro v8 h8;change _=_ at h8;subst h8;intro v9 h9;change _=_ at h9;subst h9;intro v10 h10;change _=_ at h10;subst h10;intro v11 h11;change _=_ at h11;subst h11
    simp only [Given,gv2]
    have HB5:=Lib.hid (Below.call HB3.out (kept_0 hG))
    clear hG
    by_cases hf:(NP:Int)=PR
    ·have bf:((NP:Int) == PR)=true:=by simpa using hf
     have HF:Hid (st.full=5):=by show st.full=5;rw [HFU.out,if_pos hf]
     clear hf
     go_wp2
     go_ret
     exact ⟨by rw [← HCE.out];have hr:=HR.out;subst h7;simp [checkE,hr,HH.out,HF.out],HB5.out⟩
    ·have bf:((NP:Int) == PR)=false:=by simpa using hf
     have HF:Hid (st.full=0):=by show st.full=0;rw [HFU.out,if_neg hf]
     clear hf
     go_wp2
     go_ret
     exact ⟨by rw [← HCE.out];have hr:=HR.out;subst h7;simp [checkE,hr,HH.out,HF.out],HB5.out⟩
   have d7:decide (kd=7)=false:=decide_eq_false h7
   have b7:(kd == 7)=false:=by simpa using h7
   have h8:kd=8:=by have hr:=right_kind HR.out;dsimp only at hr;omega
   go_wp2
   go_ret
   exact ⟨by rw [← HCE.out];have hr:=HR.out;subst h8;simp [checkE,hr,HH.out],HB3.out⟩
end
theorem withL_pfD {m:Nat} {C:List Rg} {lo hi p:Int} (h:Cn m C) (h0:0≤lo) (hl:lo < hi) (hp:p = -1∨0≤p) (x:Int):pf (withL C lo hi p) x=withF C lo hi p x:=
 (with_is (l:=C) (lo:=lo) (hi:=hi) (how:=p) (b:=0) h.nice hp hl (fun r hr=>(h.ends r hr).1) h0).2 x
theorem find_pf {m:Nat} {L:List Rg} (h:Cn m L) (x:Int):findB L x=true↔pf L x ≠ -1:=by
 refine ⟨fun hf=>?_,pf_find⟩
 unfold findB at hf
 obtain ⟨r,hr⟩:=Option.isSome_iff_exists.1 hf
 have h1:=List.mem_of_find?_eq_some hr
 have h3:=List.find?_some hr
 have h2:r.lo≤x∧x < r.hi:=Rg.has_iff.1 h3
 rw [parted_at h.parted h1 h2]
 have:=(h.nice r h1)
 omega
theorem filter_all {α:Type} {p:α→Bool} {L:List α} (h:∀ x ∈ L,p x=true):L.filter p=L:=List.filter_eq_self.2 h
theorem with_keeps {m m':Nat} {C:List Rg} {lo hi p:Int} (h:Cn m C) (h':Cn m' (withL C lo hi p)) (h0:0≤lo) (hl:lo < hi) (hp:0≤p) {x:Int} (hx:findB C x=true):findB (withL C lo hi p) x=true:=by
 rw [find_pf h',withL_pfD h h0 hl (.inr hp)];rw [find_pf h] at hx
 unfold withF
 split
 ·omega
 ·exact hx
theorem with_drops {m m':Nat} {C:List Rg} {lo hi:Int} (h:Cn m C) (h':Cn m' (withL C lo hi (-1))) (h0:0≤lo) (hl:lo < hi) {x:Int} (hx:findB C x=true):findB (withL C lo hi (-1)) x = !decide (lo≤x∧x < hi):=by
 rw [Bool.eq_iff_iff,find_pf h',withL_pfD h h0 hl (.inl rfl)];rw [find_pf h] at hx
 unfold withF
 split
 ·rename_i e;simp [e]
 ·rename_i e;simp [e,hx]
theorem turn_facts {c:Cf} {L:List Rg} {o:Opn} (he:turnE c L o=0):(1≤o.n∧0≤o.at_∧o.n≤c.pages∧o.at_≤c.pages - o.n)∧turnE0 L o=0:=by
 unfold turnE at he
 cases hs:strB c o.at_ o.n with
 | false=>rw [hs,if_pos rfl] at he;cases he
 | true=>
  rw [hs,if_neg (by simp)] at he
  have hst:1≤o.n∧0≤o.at_∧o.n≤c.pages∧o.at_≤c.pages - o.n:=by
   unfold strB at hs
   simpa using hs
  by_cases h6:turnE0 L o=0∧c.regions < (turnL L o).length
  ·rw [if_pos h6] at he;cases he
  ·rw [if_neg h6] at he
   exact ⟨hst,he⟩
/-- Behind Map and Protect no page goes. -/
theorem turn_keeps {c:Cf} {L:List Rg} {o:Opn} {M:List (Int × List Int)} (hc:CfOk c) (hcn:Cn c.regions.toNat L) (hwi:Within c.pages L) (he:turnE c L o=0) (hk:o.kind=2∨o.kind=4) (hM:∀ x ∈ M,findB L x.1=true) :
  (M.filter fun x=>findB (turnL L o) x.1)=M:=by
 obtain ⟨hst,h0⟩:=turn_facts he
 have h':=(turn_ok hc hcn hwi he (by omega)).1
 refine filter_all (fun x hx=>?_)
 rcases hk with hk | hk
 ·have e1:turnE0 L o=mapE L o.at_ (o.at_+o.n) o.prot:=by unfold turnE0;rw [if_pos hk]
  have e2:turnL L o=mapL L o.at_ (o.at_+o.n) o.prot:=by unfold turnL;rw [if_pos hk]
  rw [e1] at h0
  obtain ⟨g1,_,g3⟩:=map_ok h0
  rw [e2,g3] at h' ⊢
  exact with_keeps hcn h' g1.1 g1.2.1 g1.2.2.1 (hM x hx)
 ·have e1:turnE0 L o=proE L o.at_ (o.at_+o.n) o.prot:=by unfold turnE0;rw [if_neg (by omega),if_neg (by omega)]
  have e2:turnL L o=proL L o.at_ (o.at_+o.n) o.prot:=by unfold turnL;rw [if_neg (by omega),if_neg (by omega)]
  rw [e1] at h0
  obtain ⟨g1,_,g3⟩:=pro_ok h0
  rw [e2,g3] at h' ⊢
  exact with_keeps hcn h' g1.1 g1.2.1 g1.2.2.1 (hM x hx)
/-- Behind Unmap the pages outside stay. -/
theorem turn_drops {c:Cf} {L:List Rg} {o:Opn} {M:List (Int × List Int)} (hc:CfOk c) (hcn:Cn c.regions.toNat L) (hwi:Within c.pages L) (he:turnE c L o=0) (hk:o.kind=3) (hM:∀ x ∈ M,findB L x.1=true) :
  (M.filter fun x=>findB (turnL L o) x.1)=M.filter fun x=>!decide (o.at_≤x.1∧x.1 < o.at_+o.n):=by
 obtain ⟨hst,h0⟩:=turn_facts he
 have h':=(turn_ok hc hcn hwi he (by omega)).1
 refine List.filter_congr (fun x hx=>?_)
 have e2:turnL L o=unL L o.at_ (o.at_+o.n):=by unfold turnL;rw [if_neg (by omega),if_pos hk]
 have e3:unL L o.at_ (o.at_+o.n)=withL L o.at_ (o.at_+o.n) (-1):=by unfold unL;rw [if_neg (by omega)]
 rw [e2,e3] at h' ⊢
 exact with_drops hcn h' hst.2.1 (by omega) (hM x hx)
theorem ok_ms {st:Mc} (h:McOk st) {p:Int} {L:List Rg} {M:List (Int × List Int)} (hp:st.has p=true) (hcn:Cn st.c.regions.toNat L) (hwi:Within st.c.pages L) (hs:SrtP M) (hpg:∀ x ∈ M,PgOk st.c.page x.2∧findB L x.1=true) :
  McOk { st with rs:=upd st.rs p L,ms:=upd st.ms p M }:=by
 refine ⟨h.cf,h.low,fun q=>?_,fun q=>?_,fun q hq=>?_,fun q=>?_,fun q x hx=>?_⟩
 ·show Cn _ (upd st.rs p L q)
  by_cases e:q=p
  ·rw [e,upd_same];exact hcn
  ·rw [upd_other _ _ e];exact h.cn q
 ·show Within _ (upd st.rs p L q)
  by_cases e:q=p
  ·rw [e,upd_same];exact hwi
  ·rw [upd_other _ _ e];exact h.wi q
 ·have e:q ≠ p:=fun e=>by
   rw [e] at hq
   have h2:st.has p=false:=hq
   rw [hp] at h2
   cases h2
  show upd st.rs p L q=[]∧upd st.ms p M q=[]
  rw [upd_other _ _ e,upd_other _ _ e]
  exact h.gone q hq
 ·show SrtP (upd st.ms p M q)
  by_cases e:q=p
  ·rw [e,upd_same];exact hs
  ·rw [upd_other _ _ e];exact h.srt q
 ·change x ∈ upd st.ms p M q at hx
  show PgOk _ _∧findB (upd st.rs p L q) x.1=true
  by_cases e:q=p
  ·rw [e,upd_same] at hx ⊢;exact hpg x hx
  ·rw [upd_other _ _ e] at hx ⊢;exact h.pg q x hx
theorem pgOk_set {page:Int} {b:List Int} (h:PgOk page b) {i:Nat} {x:Int} (hx:(Lit.int .u8 x).wf=true):PgOk page (b.set i x):=
 ⟨by rw [List.length_set];exact h.1,fun y hy=>by
  rcases List.mem_or_eq_of_mem_set hy with h1 | h1
  ·exact h.2 y h1
  ·rw [h1];exact hx⟩
theorem storeL_pg {page:Int} {R:List Rg} (hpg:16≤page):∀ {d:List Int} {L:List (Int × List Int)} {k:Int},SrtP L→(∀ x ∈ L,PgOk page x.2∧findB R x.1=true)→(∀ y ∈ d,(Lit.int .u8 y).wf=true)→(∀ x,k≤x→x < k+d.length→findB R (x / page)=true) →
  ∀ x ∈ storeL page L k d,PgOk page x.2∧findB R x.1=true
 | [],L,k,_,h,_,_=>h
 | y :: r,L,k,hs,h,hd,hm=>by
  rw [storeL]
  refine storeL_pg hpg (stOne_srt hs k y) (fun x hx=>?_) (fun z hz=>hd z (List.mem_cons_of_mem _ hz)) (fun x h1 h2=>hm x (by omega) (by simp only [List.length_cons];omega))
  unfold stOne at hx
  rcases (pgSet_mem hs).1 hx with e | ⟨e,_⟩
  ·rw [e]
   exact ⟨pgOk_set (pgOk_B hpg (fun z hz=>(h z hz).1) _) (hd y (List.mem_cons_self ..)),hm k (by omega) (by simp only [List.length_cons];omega)⟩
  ·exact h x e
theorem ok_gone {st:Mc} (h:McOk st) (k:Nat):McOk { st with v:=st.v &&& ~~~ qbit k,rs:=upd st.rs (k:Int) [],ms:=upd st.ms (k:Int) [] }:=by
 have hc:=h.cf.procs
 refine ⟨h.cf,fun i hi=>?_,fun q=>?_,fun q=>?_,fun q hq=>?_,fun q=>?_,fun q x hx=>?_⟩
 ·replace hi:st.pr≤i:=hi
  by_cases h64:i < 64
  ·rw [drop_get st.v k i h64,h.low i hi];rfl
  ·exact BitVec.getLsbD_of_ge _ _ (by omega)
 ·show Cn _ (upd st.rs k [] q)
  by_cases e:q=k
  ·rw [e,upd_same];exact cn_nil _
  ·rw [upd_other _ _ e];exact h.cn q
 ·show Within _ (upd st.rs k [] q)
  by_cases e:q=k
  ·rw [e,upd_same];exact fun r hr=>by cases hr
  ·rw [upd_other _ _ e];exact h.wi q
 ·show upd st.rs k [] q=[]∧upd st.ms k [] q=[]
  by_cases e:q=k
  ·rw [e,upd_same,upd_same];exact ⟨rfl,rfl⟩
  ·rw [upd_other _ _ e,upd_other _ _ e]
   refine h.gone q ?_
   have h2:hasB st.c.procs (st.v &&& ~~~ qbit k) q=false:=hq
   rw [has_drop hc.2] at h2
   unfold Mc.has
   simpa [e] using h2
 ·show SrtP (upd st.ms k [] q)
  by_cases e:q=k
  ·rw [e,upd_same];exact List.Pairwise.nil
  ·rw [upd_other _ _ e];exact h.srt q
 ·change x ∈ upd st.ms k [] q at hx
  show PgOk _ _∧findB (upd st.rs k [] q) x.1=true
  by_cases e:q=k
  ·rw [e,upd_same] at hx;cases hx
  ·rw [upd_other _ _ e] at hx ⊢;exact h.pg q x hx
theorem first_take {st:Mc} (hf:firstF st.v st.pr < st.pr):tkV st.v st.pr=st.v ||| qbit (firstF st.v st.pr)∧st.first=(firstF st.v st.pr:Int):=by
 unfold Mc.first tkV tkN
 rw [if_pos hf,if_pos hf]
 exact ⟨rfl,rfl⟩
theorem first_no {st:Mc} (h:McOk st) {k:Nat} (hf:firstF st.v st.pr=k) (hk:k < st.pr):st.has (k:Int)=false:=by
 have h1:=firstF_at st.v st.pr (by rw [hf];exact hk)
 rw [hf] at h1
 unfold Mc.has
 have h2:=h.prI
 rw [← h2,hasB_nat hk]
 exact h1
theorem taken_has {st:Mc} (h:McOk st) {k:Nat} (hk:k < st.pr) (q:Int):Mc.has { st with v:=st.v ||| qbit k } q=(st.has q || decide (q=(k:Int))):=by
 have hp:=h.prI
 have hc:=h.cf.procs
 exact has_put (by omega) hc.2 q
theorem Tn.join {Q Q':Nat→Prop} {w w1 w2:World} (h:Tn Q w w1) (k:Tn Q' w1 w2) (hq:∀ k,k < w.heap.size→Q' k→Q k):Tn Q w w2:=
 ⟨k.os.trans h.os,k.tape.trans h.tape,k.output.trans h.output,Nat.le_trans h.size k.size,fun i hi hn=>(k.block i (Nat.lt_of_lt_of_le hi h.size) (fun e=>hn (hq i hi e))).trans (h.block i hi hn)⟩
/-- An operation is done: its answer, and what is left. -/
def RDoPost (No:Nat→Prop) (h:RmH) (st:Mc) (A:Ans) (st':Mc) (w:World) (e:Ending) (w':World):Prop:=
 ∃ dv pv,∃ h':RmH,e = .returned (.agg #[.int .i64 A.err,.int .i64 A.pid,dv,pv])∧Owns .u8 5 w' w.heap.size dv A.data∧Owns .i64 3 w' w.heap.size pv A.pids∧RmIn w' (fun k=>No k∨h'.own st' k) h' st'∧Tn (h.own st) w w'∧h'.m=h.m∧∀ k,h'.own st' k→h.own st k∨w.heap.size≤k
/-- An operation under way: its copy, its answer's place. -/
structure RDoS (No:Nat→Prop) (h0:RmH) (st0:Mc) (orow:Array Value) (w:World) (N2:Nat→Prop) (h:RmH) (st:Mc) (w2:World):Prop where
 mc:RmIn w2 N2 h st
 up:∀ k,No k→N2 k
 dn:∀ k,N2 k→No k∨w.heap.size+1≤k
 nb:N2 (w.heap.size+1)
 start:RmIn w No h0 st0
 res:w2.heap[w.heap.size+1]?=some (.cells #[.int .i64 0,.int .i64 0,.slice none 0 0,.slice none 0 0] 42 (0,0))
 op:w2.heap[w.heap.size]?=some (.cells orow 39 (0,0))
 tn:Tn (h0.own st0) w w2
 hm:h.m=h0.m
 own:∀ k,h.own st k→h0.own st0 k∨w.heap.size+2≤k
section
variable {No N2 N3:Nat→Prop} {h0 h h3:RmH} {st0 st st3:Mc} {orow:Array Value} {w w2 w3:World}
theorem rdos_start (i:RmIn w No h st):RDoS No h st orow w (fun k=>No k∨k=w.heap.size+1) h st ((w.alloc (.cells orow 39)).alloc (.cells #[.int .i64 0,.int .i64 0,.slice none 0 0,.slice none 0 0] 42)):=by
 have hb:=below_a2 w (.cells orow 39) (.cells #[.int .i64 0,.int .i64 0,.slice none 0 0,.slice none 0 0] 42)
 refine ⟨i.more hb (fun k hk=>.inl hk) (fun k hk=>?_) (fun k hk=>?_),fun k hk=>.inl hk,fun k hk=>?_,.inr rfl,i,al2_1 _ _ _,al2_0 _ _ _,Tn.of hb,rfl,fun k hk=>.inl hk⟩
 ·rcases hk with hk | rfl
  ·exact .inl hk
  ·exact .inr (by omega)
 ·rcases hk with hk | rfl
  ·exact Nat.lt_of_lt_of_le (i.lt k hk) hb.size
  ·simp
 ·rcases hk with hk | rfl
  ·exact .inl hk
  ·exact .inr (Nat.le_refl _)
theorem RDoS.lt (s:RDoS No h0 st0 orow w N2 h st w2):w.heap.size+1 < w2.heap.size:=(Array.getElem?_eq_some_iff.1 s.res).1
theorem RDoS.below (s:RDoS No h0 st0 orow w N2 h st w2) (b:Below w2.heap.size w2 w3):RDoS No h0 st0 orow w N2 h st w3:=⟨s.mc.below b,s.up,s.dn,s.nb,s.start,row_keep s.res b,row_keep s.op b,s.tn.call b,s.hm,s.own⟩
theorem RDoS.own_lt (s:RDoS No h0 st0 orow w N2 h st w2) {k:Nat} (hk:h.own st k):k < w.heap.size∨w.heap.size+2≤k:=(s.own k hk).imp (fun e=>s.start.lt k (s.start.own_no k e)) id
theorem RDoS.turn (s:RDoS No h0 st0 orow w N2 h st w2) (i:RmIn w3 N3 h3 st3) (t:Tn (h.own st) w2 w3) (hu:∀ k,N2 k→N3 k) (hd:∀ k,N3 k→N2 k∨w2.heap.size≤k) (hm:h3.m=h.m) (ho:∀ k,h3.own st3 k→h.own st k∨w2.heap.size≤k):RDoS No h0 st0 orow w N3 h3 st3 w3:=by
 have hlt:=s.lt
 refine ⟨i,fun k hk=>hu k (s.up k hk),fun k hk=>?_,hu _ s.nb,s.start,row_tn s.res t (fun e=>by have:=s.own_lt e;omega),row_tn s.op t (fun e=>by have:=s.own_lt e;omega),s.tn.join t (fun k hk e=>?_),hm.trans s.hm,fun k hk=>?_⟩
 ·rcases hd k hk with e | e
  ·exact s.dn k e
  ·exact .inr (by omega)
 ·rcases s.own k e with e2 | e2
  ·exact e2
  ·omega
 ·rcases ho k hk with e | e
  ·exact s.own k e
  ·exact .inr (by omega)
/-- The answer laid. -/
theorem RDoS.fin (s:RDoS No h0 st0 orow w N2 h st w2) {B:Nat} (hB:w.heap.size+1 < B) (A:Ans) {dv pv:Value} (hd:Owns .u8 5 w2 B dv A.data) (hp:Owns .i64 3 w2 B pv A.pids) :
  Owns .u8 5 (sets w2 (w.heap.size+1) [(0,.int .i64 A.err),(1,.int .i64 A.pid),(2,dv),(3,pv)]) w.heap.size dv A.data∧Owns .i64 3 (sets w2 (w.heap.size+1) [(0,.int .i64 A.err),(1,.int .i64 A.pid),(2,dv),(3,pv)]) w.heap.size pv A.pids∧RmIn (sets w2 (w.heap.size+1) [(0,.int .i64 A.err),(1,.int .i64 A.pid),(2,dv),(3,pv)]) (fun k=>No k∨h.own st k) h st∧Tn (h0.own st0) w (sets w2 (w.heap.size+1) [(0,.int .i64 A.err),(1,.int .i64 A.pid),(2,dv),(3,pv)]) ∧
  (sets w2 (w.heap.size+1) [(0,.int .i64 A.err),(1,.int .i64 A.pid),(2,dv),(3,pv)]).heap[w.heap.size+1]?=some (.cells #[.int .i64 A.err,.int .i64 A.pid,dv,pv] 42 (0,0)):=by
 have hg:=sets_grown (b:=w.heap.size+1) [(0,.int .i64 A.err),(1,.int .i64 A.pid),(2,dv),(3,pv)] w2
 have hr:=sets_row [(0,.int .i64 A.err),(1,.int .i64 A.pid),(2,dv),(3,pv)] s.res
 have t:Tn (fun k=>k=w.heap.size+1) w2 _:=(Tn.refl _ w2).put hg (.inl rfl)
 refine ⟨(hd.grown hg (fun g hg2 e=>by have:=(hd.at_base g hg2).1;injection e with e;omega)).mono (by omega),(hp.grown hg (fun g hg2 e=>by have:=(hp.at_base g hg2).1;injection e with e;omega)).mono (by omega),?_,s.tn.put hg (.inr (by omega)),hr⟩
 refine (s.mc.tn t (fun k e=>⟨by rw [e];exact s.nb,fun ho=>by have:=s.own_lt ho;omega⟩)).less (fun k hk=>?_) (fun k hk=>.inr hk)
 rcases hk with hk | hk
 ·exact s.up k hk
 ·exact s.mc.own_no k hk
end
section
variable {No:Nat→Prop} {h:RmH} {st:Mc} {w:World}
set_option maxHeartbeats 4000000 in
theorem rdo_err (i:RmIn w No h st) (kd:Int) (pid ad n pr:Int) (d:List Int) (a:Option Addr) (dn dc:Nat) (hp:(Lit.int .i64 pid).wf=true) (hk:(Lit.int .i64 ad).wf=true) (hn:(Lit.int .i64 n).wf=true) (hd:d.length=dn) (hdl:dn≤9223372036854775807) (E:Int) (hE:checkE st ⟨kd,pid,ad,n,pr,d⟩=E) (hne:E ≠ 0) :
  Calls Tryz.prog 9 #[.pointer (some ⟨h.m,0,none⟩),.agg #[.int .i64 kd,.int .i64 pid,.int .i64 ad,.int .i64 n,.int .i64 pr,.slice a dn dc]] w (RDoPost No h st ⟨E,0,[],[]⟩ (st) w):=by
 have s0:=rdos_start (orow:=#[.int .i64 kd,.int .i64 pid,.int .i64 ad,.int .i64 n,.int .i64 pr,.slice a dn dc]) i
 have hck:=rcheck_any s0.mc ⟨kd,pid,ad,n,pr,d⟩ a dn dc hp hk hn hd hdl
 have HI:=Lib.hid i;have HP:=Lib.hid hp;have HAD:=Lib.hid hk;have HN:=Lib.hid hn;have HD:=Lib.hid hd
 obtain ⟨o0,o1,o2,o3,o4,o5⟩:=cells6 s0.op
 have HS0:=Lib.hid s0;rw [hE] at hck
 skip
 have h3:decide (E=0)=false:=decide_eq_false hne
 have h4:(E != 0)=true:=by simpa using hne
 have h5:(E == 0)=false:=by simpa using hne
 clear hE hne;have HCK:=Lib.hid hck;clear hck s0 i hp hk hn hd 
 go_enter Tryz.func9,Tryz.ntmps9
 go_wp2_with fail
 refine HCK.out.mono ?_
 rintro e w2 ⟨rfl,hb2⟩
 have HS2:=Lib.hid (HS0.out.below hb2)
 replace o0:=cel hb2 o0;replace o1:=cel hb2 o1;replace o2:=cel hb2 o2;replace o3:=cel hb2 o3;replace o4:=cel hb2 o4;replace o5:=cel hb2 o5;clear hb2
 obtain ⟨y0,y1,y2,y3⟩:=cells4a HS2.out.res
 have hf:∀ i,w2.frozen? ⟨w.heap.size+1,i,none⟩=false:=fun i=>frozen_of_row w2 (w.heap.size+1) i _ _ HS2.out.res
 have HF:=Lib.hid (HS2.out.fin (B:=w2.heap.size) HS2.out.lt (⟨E,0,[],[]⟩:Ans) (dv:=.slice none 0 0) (pv:=.slice none 0 0) (Owns.nil _ _ _ _) (Owns.nil _ _ _ _))
 clear o0 o1 o2 o3 o4 o5
 go_wp2
 obtain ⟨r0,r1,r2,r3⟩:=cells4a HF.out.2.2.2.2
 unfold sets sets sets sets sets at r0 r1 r2 r3
 refine bodyPost_ret (v:=.agg #[.int .i64 (Ans.err (⟨E,0,[],[]⟩:Ans)),.int .i64 (Ans.pid (⟨E,0,[],[]⟩:Ans)),.slice none 0 0,.slice none 0 0]) (by simp [results,Tryz.results9,go_sem,r0,r1,r2,r3]) rfl ?_
 skip
 exact ⟨_,_,_,rfl,HF.out.1,HF.out.2.1,HF.out.2.2.1,HF.out.2.2.2.1,HS2.out.hm,fun k hk=>(HS2.out.own k hk).imp id (fun h=>by omega)⟩
end
section
variable {No:Nat→Prop} {h:RmH} {st:Mc} {w:World}
set_option maxHeartbeats 2000000 in
theorem rload_any (i:RmIn w No h st) (q:Int) (hq:st.has q=true) (k:Int) (hk:0≤k∧k≤1000000000) :
  Calls Tryz.prog 31 #[.pointer (some ⟨h.m,0,none⟩),.pointer (some ⟨(h.pr q).b,0,none⟩),.int .i64 k] w fun e w'=>e = .returned (.int .u8 (nth (pgB st.c.page (st.ms q) (k / st.c.page)) (k % st.c.page).toNat))∧Below w.heap.size w w':=by
 obtain ⟨c4,_,_,_,_,_⟩:=i.cells
 have hp:=i.pr q hq
 have hs:=i.ok.srt q
 have hfew:=i.ok.few q
 have hpg:=i.ok.cf.page
 obtain ⟨PG,hPG⟩:∃ x,st.c.page=x:=⟨_,rfl⟩
 rw [hPG] at c4 hpg ⊢
 have hpgs:=fun x hx=>(i.ok.pg q x hx).1
 rw [hPG] at hpgs
 obtain ⟨LL,hLL⟩:∃ x,st.ms q=x:=⟨_,rfl⟩
 rw [hLL] at hp hs hfew hpgs ⊢
 obtain ⟨HH,hHH⟩:∃ x,h.pr q=x:=⟨_,rfl⟩
 rw [hHH] at hp ⊢;have HPP:=Lib.hid hp;have HPGS:=Lib.hid hpgs;have HSS:=Lib.hid hs;have HFW:=Lib.hid hfew;clear hp hpgs hs hfew hPG hLL hHH i
 have hz:¬ PG=0:=by omega
 have hq1:k.tdiv PG=k / PG:=Int.tdiv_eq_ediv_of_nonneg (by omega)
 have hmr:0≤k % PG∧k % PG < PG:=⟨Int.emod_nonneg _ (by omega),Int.emod_lt_of_pos _ (by omega)⟩
 have hn0:0≤k / PG:=Int.ediv_nonneg hk.1 (by omega)
 have hn1:k / PG≤1000000000:=Int.le_trans (Int.ediv_le_self _ hk.1) hk.2
 obtain ⟨hk0,hk1⟩:=hk
 obtain ⟨N,hN⟩:∃ x,k / PG=x:=⟨_,rfl⟩
 rw [hN] at hn0 hn1
 obtain ⟨R,hR⟩:=Int.eq_ofNat_of_zero_le hmr.1
 have hm1:k.tmod PG=(R:Int):=by rw [Int.tmod_eq_emod_of_nonneg (by omega),hR]
 rw [hN] at hq1 ⊢;rw [hR] at hmr ⊢;rw [show ((R:Nat):Int).toNat=R from rfl]
 have HCF:=Lib.hid (find18_any HPP.out HSS.out (by have:=HFW.out;omega) N)
 obtain ⟨PN,hPN⟩:∃ x,pos LL N=x:=⟨_,rfl⟩
 rw [hPN] at HCF;have HPN:=Lib.hid hPN
 obtain ⟨OK,hOK⟩:∃ x,kget LL N=x:=⟨_,rfl⟩
 rw [hOK] at HCF;have HOK:=Lib.hid hOK
 have hrb:(R:Int) < PG:=hmr.2
 obtain ⟨VV,hVV⟩:∃ x,nth (pgB PG LL N) R=x:=⟨_,rfl⟩
 rw [hVV];have HVV:=Lib.hid hVV;clear hN hR hPN hOK hmr hVV
 go_enter Tryz.func31,Tryz.ntmps31
 go_wp2_with fail
 refine HCF.out.mono ?_
 rintro e w1 ⟨rfl,hb1⟩
 have HB1:=Lib.hid hb1
 have HP1:=Lib.hid (HPP.out.tn (Tn.of (Q:=fun _=>False) hb1) (fun _ h=>h.elim))
 replace c4:=cel hb1 c4;clear hb1 HCF
 cases OK with
 | none=>
  obtain rfl:VV=0:=by
   rw [← HVV.out]
   unfold pgB
   rw [HOK.out]
   show nth (zeroP PG) R=0
   unfold zeroP
   rw [nth_eq (by simp;omega)]
   simp
  go_wp2_with fail
  go_ret
  exact ⟨rfl,HB1.out⟩
 | some b=>
  have hlp:PN < LL.length:=by
   have h1:=pos_le LL N
   rw [HPN.out] at h1
   by_cases e:PN=LL.length
   ·have:=pos_none (L:=LL) (n:=N) (by rw [HPN.out];exact e)
    rw [HOK.out] at this
    cases this
   ·omega
  obtain ⟨x,hx⟩:∃ x,LL[PN]?=some x:=⟨_,List.getElem?_eq_getElem hlp⟩
  have hkg:=pos_kget HSS.out (n:=N) (x:=x) (by rw [HPN.out];exact hx)
  rw [HOK.out] at hkg
  have hx1:x.1=N∧b=x.2:=by
   by_cases e:x.1=N
   ·rw [if_pos e] at hkg;injection hkg with hkg;exact ⟨e,hkg⟩
   ·rw [if_neg e] at hkg;cases hkg
  obtain ⟨x1,x2⟩:=x
  obtain ⟨rfl,rfl⟩:x1=N∧b=x2:=hx1
  have hmem:=List.mem_of_getElem? hx
  obtain ⟨ra,rn,rc,la,lc,_,z1,_,h3⟩:=HP1.out.cell
  obtain ⟨bb,oo,rfl,q0,q1⟩:=pge_at h3 hx
  have hown:=HP1.out.pg _ hmem
  have hbl:b.length=PG:=(HPGS.out _ hmem).1
  obtain ⟨NB,hNB⟩:∃ x,b.length=x:=⟨_,rfl⟩
  replace q1:w1.cell? ⟨bb,oo+PN * 2+1,none⟩=some (.slice (some ⟨HH.q x1,0,none⟩) b.length (HH.cp x1)):=q1
  replace hown:Owns .u8 5 w1 0 (.slice (some ⟨HH.q x1,0,none⟩) b.length (HH.cp x1)) b:=hown
  rw [hNB] at q1 hown hbl
  obtain ⟨g,hg,_,_,hcell,_⟩:=hown.cellAt R (by rw [hNB];omega)
  injection hg with hg
  injection hg with hg _ _
  rw [← hg] at hcell
  have hv:nth b R=VV:=by rw [← HVV.out];unfold pgB;rw [HOK.out];rfl
  rw [hv] at hcell
  obtain ⟨NL,hNL⟩:∃ y,LL.length=y:=⟨_,rfl⟩
  rw [hNL] at z1 hlp
  have hRN:R < NB:=by omega
  clear hown hkg hx hmem h3 hv hNB hg hNL q0;go_wp2_with fail;go_quiet (fail);go_wp2_with fail
  go_ret
  exact ⟨rfl,belowNp HB1.out _⟩
set_option maxHeartbeats 2000000 in
theorem rbytesOf_any (i:RmIn w No h st) (q:Int) (hq:st.has q=true) (N:Int) :
  Calls Tryz.prog 46 #[.pointer (some ⟨h.m,0,none⟩),.pointer (some ⟨(h.pr q).b,0,none⟩),.int .i64 N] w fun e w'=>∃ a n c,e = .returned (.slice a n c)∧RdAt .u8 w' a n c (pgB st.c.page (st.ms q) N)∧Below w.heap.size w w':=by
 obtain ⟨c4,_,_,_,_,_⟩:=i.cells
 have hp:=i.pr q hq
 have hs:=i.ok.srt q
 have hfew:=i.ok.few q
 have hpg:=i.ok.cf.page
 obtain ⟨PG,hPG⟩:∃ x,st.c.page=x:=⟨_,rfl⟩
 rw [hPG] at c4 hpg ⊢
 have hpgs:=fun x hx=>(i.ok.pg q x hx).1
 rw [hPG] at hpgs
 obtain ⟨LL,hLL⟩:∃ x,st.ms q=x:=⟨_,rfl⟩
 rw [hLL] at hp hs hfew hpgs ⊢
 obtain ⟨HH,hHH⟩:∃ x,h.pr q=x:=⟨_,rfl⟩
 rw [hHH] at hp ⊢;have HPP:=Lib.hid hp;have HPGS:=Lib.hid hpgs;have HSS:=Lib.hid hs;have HFW:=Lib.hid hfew;clear hp hpgs hs hfew hPG hLL hHH i
 have HCF:=Lib.hid (find18_any HPP.out HSS.out (by have:=HFW.out;omega) N)
 obtain ⟨PN,hPN⟩:∃ x,pos LL N=x:=⟨_,rfl⟩
 rw [hPN] at HCF;have HPN:=Lib.hid hPN
 obtain ⟨OK,hOK⟩:∃ x,kget LL N=x:=⟨_,rfl⟩
 rw [hOK] at HCF;have HOK:=Lib.hid hOK
 have hz:¬ PG=0:=by omega
 obtain ⟨VV,hVV⟩:∃ x,pgB PG LL N=x:=⟨_,rfl⟩
 rw [hVV];have HVV:=Lib.hid hVV;clear hPN hOK hVV
 go_enter Tryz.func46,Tryz.ntmps46
 go_wp2_with fail
 refine HCF.out.mono ?_
 rintro e w1 ⟨rfl,hb1⟩
 have HB1:=Lib.hid hb1
 have HP1:=Lib.hid (HPP.out.tn (Tn.of (Q:=fun _=>False) hb1) (fun _ h=>h.elim))
 replace c4:=cel hb1 c4;clear hb1 HCF
 cases OK with
 | none=>
  obtain rfl:VV=zeroP PG:=by
   rw [← HVV.out]
   unfold pgB
   rw [HOK.out];rfl
  obtain ⟨w2,hm,ho,hb⟩:=mkN5 PG (by omega) (by omega) w1
  have HO:=Lib.hid ho
  have HB2:=Lib.hid (Below.call HB1.out hb)
  clear ho hb;go_wp2_with fail
  go_ret
  exact ⟨_,_,_,rfl,HO.out.rd,HB2.out⟩
 | some b=>
  have hlp:PN < LL.length:=by
   have h1:=pos_le LL N
   rw [HPN.out] at h1
   by_cases e:PN=LL.length
   ·have:=pos_none (L:=LL) (n:=N) (by rw [HPN.out];exact e)
    rw [HOK.out] at this
    cases this
   ·omega
  obtain ⟨x,hx⟩:∃ x,LL[PN]?=some x:=⟨_,List.getElem?_eq_getElem hlp⟩
  have hkg:=pos_kget HSS.out (n:=N) (x:=x) (by rw [HPN.out];exact hx)
  rw [HOK.out] at hkg
  have hx1:x.1=N∧b=x.2:=by
   by_cases e:x.1=N
   ·rw [if_pos e] at hkg;injection hkg with hkg;exact ⟨e,hkg⟩
   ·rw [if_neg e] at hkg;cases hkg
  obtain ⟨x1,x2⟩:=x
  obtain ⟨rfl,rfl⟩:x1=N∧b=x2:=hx1
  have hmem:=List.mem_of_getElem? hx
  obtain ⟨ra,rn,rc,la,lc,_,z1,_,h3⟩:=HP1.out.cell
  obtain ⟨bb,oo,rfl,q0,q1⟩:=pge_at h3 hx
  have hown:Owns .u8 5 w1 0 (.slice (some ⟨HH.q x1,0,none⟩) b.length (HH.cp x1)) b:=HP1.out.pg _ hmem
  replace q1:w1.cell? ⟨bb,oo+PN * 2+1,none⟩=some (.slice (some ⟨HH.q x1,0,none⟩) b.length (HH.cp x1)):=q1
  obtain rfl:VV=b:=by rw [← HVV.out];unfold pgB;rw [HOK.out];rfl
  have HRD:=Lib.hid hown.rd
  obtain ⟨NL,hNL⟩:∃ y,LL.length=y:=⟨_,rfl⟩
  rw [hNL] at z1 hlp;clear hown hkg hx hmem h3 hNL q0;go_wp2_with fail
  go_ret
  exact ⟨_,_,_,rfl,HRD.out,HB1.out⟩
end
end Go.Proofs.YtoepnbfifjgpfaaGreat
