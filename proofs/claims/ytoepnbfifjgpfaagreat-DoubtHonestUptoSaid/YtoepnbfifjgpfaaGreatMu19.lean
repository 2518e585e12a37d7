/- The machine: what an operation is refused for. The machine: what a change is. Rows of bytes. No program in sight. Bytes as a value and as a string: words for regions that draw their order. The machine: bytes that are loaded. -/
import Derived.Test.YtoepnbfifjgpfaaGreatMu0
import Derived.Test.YtoepnbfifjgpfaaGreatMu18
import Derived.WalkKit
import Derived.ProofKit
import Derived.BigQuiet
import Derived.Deep.QuietTactic
import Derived.Lib.Hide
import Derived.RegionTactic
import Derived.Test.YtoepnbfifjgpfaaGreatMu1
import Derived.Test.YtoepnbfifjgpfaaGreatMu15
import Derived.Test.YtoepnbfifjgpfaaGreatMu10
import Derived.Test.YtoepnbfifjgpfaaGreatMu3
import Derived.Test.YtoepnbfifjgpfaaGreatMu16
namespace Go.Proofs.YtoepnbfifjgpfaaGreat
set_option maxRecDepth 100000
open Go.RowKit
set_option linter.unusedSimpArgs false
section
variable {No:Nat→Prop} {h:McH} {st:Mc} {w:World}
set_option maxHeartbeats 4000000 in
theorem check_any (i:McIn w No h st) (o:Opn) (a:Option Addr) (dn dc:Nat) (hp:(Lit.int .i64 o.pid).wf=true) (hk:(Lit.int .i64 o.at_).wf=true) (hn:(Lit.int .i64 o.n).wf=true) (hd:o.data.length=dn) (hdl:dn≤9223372036854775807) :
  Calls Tryz.prog 37 #[.pointer (some ⟨h.m,0,none⟩),.agg #[.int .i64 o.kind,.int .i64 o.pid,.int .i64 o.at_,.int .i64 o.n,.int .i64 o.prot,.slice a dn dc]] w fun e w'=>e = .returned (.int .i64 (checkE st o))∧Below w.heap.size w w':=by
 obtain ⟨kd,pid,ad,n,pr,d⟩:=o
 dsimp only at hp hk hn hd ⊢
 have hb0:=below_a w (.cells #[.int .i64 kd,.int .i64 pid,.int .i64 ad,.int .i64 n,.int .i64 pr,.slice a dn dc] 39)
 have i1:=i.below hb0
 obtain ⟨c4,c6,c7,c8,c9,c10,c11⟩:=i1.cells
 have hrow:=heap_alloc_new w (.cells #[.int .i64 kd,.int .i64 pid,.int .i64 ad,.int .i64 n,.int .i64 pr,.slice a dn dc] 39)
 obtain ⟨o0,o1,o2,o3,o4,o5⟩:=cells6 hrow
 have HROW:=Lib.hid hrow;have HI:=Lib.hid i;have HI1:=Lib.hid i1;have HB0:=Lib.hid hb0;have HP:=Lib.hid hp;have HK:=Lib.hid hk;have HN:=Lib.hid hn;have HD:=Lib.hid hd;have HDL:=Lib.hid hdl
 have HST:Hid (SetAt (w.alloc (.cells #[.int .i64 kd,.int .i64 pid,.int .i64 ad,.int .i64 n,.int .i64 pr,.slice a dn dc] 39)) h.sb st.pr st.v):=by
  have:=i1.set
  rw [← i.ok.prI] at this
  exact this
 have HS2:=Lib.hid i.set;have HPR:=Lib.hid i.ok.prL.2;have HPR2:=Lib.hid i.ok.cf.procs.2
 obtain ⟨CE,hCE⟩:∃ x,checkE st ⟨kd,pid,ad,n,pr,d⟩=x:=⟨_,rfl⟩
 rw [hCE];have HCE:=Lib.hid hCE
 obtain ⟨NP,hNP⟩:∃ x:Int,((pidsK st.v st.pr).length:Int)=x:=⟨_,rfl⟩
 obtain ⟨PR,hPR⟩:∃ x,st.c.procs=x:=⟨_,rfl⟩
 have HFU:Hid (st.full=if NP=PR then 5 else 0):=by
  show st.full=_
  unfold Mc.full
  rw [hNP,hPR]
 have HNP:=Lib.hid hNP;rw [hPR] at c6;clear hCE hNP hPR hrow hb0 i i1 hp hk hn hd hdl
 go_enter Tryz.func37,Tryz.ntmps37
 go_wp2_with fail
 refine' reg_free (G:=Kept) (pickF [eqV _,eqV _,eqV _,eqV _,eqV _,eqV _,eqV _,eqV _,eqV _,eqV _,eqV _]) [8,9,10,11,12,13,14,15,16,17,18] [[],[0],[1],[2],[3],[],[5],[6],[7],[8],[4,9]] [0,1,2,3,4,5,6,7,8,9,10] (by kernel_rfl) Kept.refl Kept.trans (pick_stays ⟨eS _,eS _,eS _,eS _,eS _,eS _,eS _,eS _,eS _,eS _,eS _,trivial⟩) 76 rfl (by kernel_rfl) (by kernel_rfl) rfl rfl ?r1obl ?r1fin
 case r1obl=>
  refine ⟨?r1o0,?r1o1,?r1o2,?r1o3,?r1o4,?r1o5,?r1o6,?r1o7,?r1o8,?r1o9,?r1o10,trivial⟩
  case r1o0 | r1o5=>
   intro w1 hG;refine t1o (by rfl) ?_;intro K hK;go_simp;refine hK _ _ ⟨rfl,Kept.refl _,?_⟩;show _=_;simp only [gv1];rfl
  case r1o1 | r1o2=>
   intro w1 hG;intro va ha;change _=_ at ha;subst ha;refine t1o (by rfl) ?_;intro K hK;simp only [gv2];go_simp;refine hK _ _ ⟨rfl,Kept.refl _,?_⟩;show _=_;simp only [gv1];rfl
  case r1o3=>
   intro w1 hG;intro v2 h2;change _=_ at h2;subst h2;refine t1o (by rfl) ?_;intro K hK;simp only [gv2]
   have hGB:=kept_0 hG
   have hc:=cel hGB c9
   go_simp;refine hK _ _ ⟨rfl,Kept.refl _,?_⟩;show _=_;simp only [gv1];rfl
  case r1o4=>
   intro w1 hG;intro v3 h3;change _=_ at h3;subst h3;refine t1o (by rfl) ?_;intro K hK;simp only [gv2];go_simp
   have hcl:=len_any h.sb st.pr st.v w1 (HST.out.below (kept_0 hG)) HPR.out
   rw [HNP.out] at hcl
   refine hcl.mono ?_
   rintro e w2 ⟨rfl,hb⟩
   refine hK _ _ ⟨rfl,hb,?_⟩
   show _=_;simp only [gv1];rfl
  case r1o6 | r1o7 | r1o8=>
   intro w1 hG;intro va ha;change _=_ at ha;subst ha;refine t1o (by rfl) ?_;intro K hK;simp only [gv2];go_simp;refine hK _ _ ⟨rfl,Kept.refl _,?_⟩;show _=_;simp only [gv1];rfl
  case r1o9=>
   intro w1 hG;intro v8 h8;change _=_ at h8;subst h8;refine t1o (by rfl) ?_;intro K hK;simp only [gv2]
   have hGB:=kept_0 hG
   have hc:=cel hGB c6
   go_simp;refine hK _ _ ⟨rfl,Kept.refl _,?_⟩;show _=_;simp only [gv1];rfl
  case r1o10=>
   intro w1 hG;intro va ha;change _=_ at ha;subst ha;intro vb hb;change _=_ at hb;subst hb;refine t1o (by rfl) ?_;intro K hK;simp only [gv2];go_simp;refine hK _ _ ⟨rfl,Kept.refl _,?_⟩;show _=_;simp only [gv1];rfl
 intro w1 hG;intro v0 h0;change _=_ at h0;subst h0;intro v1 h1;change _=_ at h1;subst h1;intro v2 h2;change _=_ at h2;subst h2;intro v3 h3;change _=_ at h3;subst h3;intro v4 h4;change _=_ at h4;subst h4;intro v5 h5;change _=_ at h5;subst h5;intro v6 h6;change _=_ at h6;subst h6;intro v7 h7;change _=_ at h7;subst h7;intro v8 h8;change _=_ at h8;subst h8;intro v9 h9
 change _=_ at h9;subst h9;intro v10 h10;change _=_ at h10;subst h10
 simp only [Given,gv2]
 have hGB:=kept_0 hG
 clear hG
 replace o0:w1.cell? _=_:=cel hGB o0
 replace o1:w1.cell? _=_:=cel hGB o1
 replace o2:w1.cell? _=_:=cel hGB o2
 replace o3:w1.cell? _=_:=cel hGB o3
 replace o4:w1.cell? _=_:=cel hGB o4
 replace o5:w1.cell? _=_:=cel hGB o5
 replace c9:w1.cell? _=_:=cel hGB c9
 have HB1:=Lib.hid (Below.call HB0.out hGB)
 clear hGB c4 c6 c7 c8 c10 c11
 by_cases hf:NP=PR
 ·have df:decide (NP=PR)=true:=decide_eq_true hf
  have bf:(NP == PR)=true:=by simpa using hf
  have HF:Hid (st.full=5):=by show st.full=5;rw [HFU.out,if_pos hf]
  go_wp2_with fail
  have hcr:=opright_any a dn dc w1 ⟨kd,pid,ad,n,pr,d⟩ HD.out
  refine hcr.mono ?_
  clear hcr
  rintro e w2 ⟨rfl,hb2⟩
  replace o0:w2.cell? _=_:=cel hb2 o0
  replace o1:w2.cell? _=_:=cel hb2 o1
  replace o2:w2.cell? _=_:=cel hb2 o2
  replace o3:w2.cell? _=_:=cel hb2 o3
  replace o4:w2.cell? _=_:=cel hb2 o4
  replace o5:w2.cell? _=_:=cel hb2 o5
  replace c9:w2.cell? _=_:=cel hb2 c9
  have HB2:=Lib.hid (Below.call HB1.out hb2)
  clear hb2
  cases hR:rightOp ⟨kd,pid,ad,n,pr,d⟩ with
  | false=>
   go_wp2
   go_ret
   exact ⟨by rw [← HCE.out];simp [checkE,hR],HB2.out⟩
  | true=>
   have HR:=Lib.hid hR;clear hR
   by_cases h9:kd=9
   ·subst h9
    go_wp2
    go_ret
    exact ⟨by rw [← HCE.out];simp [checkE,HR.out],HB2.out⟩
   ·have d9:decide (kd=9)=false:=decide_eq_false h9
    have b9:(kd == 9)=false:=by simpa using h9
    by_cases h1:kd=1
    ·subst h1
     go_wp2
     go_ret
     exact ⟨by rw [← HCE.out];simp [checkE,HR.out,HF.out],HB2.out⟩
    ·have d1:decide (kd=1)=false:=decide_eq_false h1
     have b1:(kd == 1)=false:=by simpa using h1
     go_wp2_with fail
     refine' reg_free (G:=Kept) (pickF [eqV _,eqV _,eqV _,eqV _,eqV _,eqV _,eqV _,eqV _,eqV _]) [33,34,35,36,37,38,39,40,32] [[],[0],[1],[2],[],[4],[3,5],[6],[7]] [0,1,2,3,4,5,6,7,8] (by kernel_rfl) Kept.refl Kept.trans (pick_stays ⟨eS _,eS _,eS _,eS _,eS _,eS _,eS _,eS _,eS _,trivial⟩) 76 rfl (by kernel_rfl) (by kernel_rfl) rfl rfl ?r2obl ?r2fin
     case r2obl=>
      refine ⟨?r2o0,?r2o1,?r2o2,?r2o3,?r2o4,?r2o5,?r2o6,?r2o7,?r2o8,trivial⟩
      case r2o0 | r2o4=>
       intro w3 hG;refine t1o (by rfl) ?_;intro K hK;go_simp;refine hK _ _ ⟨rfl,Kept.refl _,?_⟩;show _=_;simp only [gv1];rfl
      case r2o1 | r2o2=>
       intro w3 hG;intro va ha;change _=_ at ha;subst ha;refine t1o (by rfl) ?_;intro K hK;simp only [gv2];go_simp;refine hK _ _ ⟨rfl,Kept.refl _,?_⟩;show _=_;simp only [gv1];rfl
      case r2o3=>
       intro w3 hG;intro v2 h2;change _=_ at h2;subst h2;refine t1o (by rfl) ?_;intro K hK;simp only [gv2]
       have hGB:=kept_0 hG
       have hc:=cel hGB c9
       go_simp;refine hK _ _ ⟨rfl,Kept.refl _,?_⟩;show _=_;simp only [gv1];rfl
      case r2o5=>
       intro w3 hG;intro v4 h4;change _=_ at h4;subst h4;refine t1o (by rfl) ?_;intro K hK;simp only [gv2]
       have hGB:=kept_0 hG
       have hc:=cel hGB o1
       go_simp;refine hK _ _ ⟨rfl,Kept.refl _,?_⟩;show _=_;simp only [gv1];rfl
      case r2o6=>
       intro w3 hG;intro v3 h3;change _=_ at h3;subst h3;intro v5 h5;change _=_ at h5;subst h5;refine t1o (by rfl) ?_;intro K hK;simp only [gv2];go_simp
       have hch:=has_any h.sb st.c.procs st.v pid w3 (HS2.out.below (Below.call HB2.out (kept_0 hG))) HPR2.out
       refine hch.mono ?_
       rintro e w4 ⟨rfl,rfl⟩
       refine hK _ _ ⟨rfl,Kept.refl _,?_⟩;show _=_;simp only [gv1];rfl
      case r2o7 | r2o8=>
       intro w3 hG;intro va ha;change _=_ at ha;subst ha;refine t1o (by rfl) ?_;intro K hK;simp only [gv2];go_simp;refine hK _ _ ⟨rfl,Kept.refl _,?_⟩;show _=_;simp only [gv1];rfl
     intro w3 hG;intro v0 h0;change _=_ at h0;subst h0;intro v1 h1;change _=_ at h1;subst h1;intro v2 h2;change _=_ at h2;subst h2;intro v3 h3;change _=_ at h3;subst h3;intro v4 h4;change _=_ at h4;subst h4;intro v5 h5;change _=_ at h5;subst h5;intro v6 h6;change _=_ at h6;subst h6;intro v7 h7;change _=_ at h7;subst h7;intro v8 h8;change _=_ at h8;subst h8
     simp only [Given,gv2]
     have hGB:=kept_0 hG
     clear hG
     replace o0:w3.cell? _=_:=cel hGB o0
     replace o1:w3.cell? _=_:=cel hGB o1
     replace o2:w3.cell? _=_:=cel hGB o2
     replace o3:w3.cell? _=_:=cel hGB o3
     replace o4:w3.cell? _=_:=cel hGB o4
     replace o5:w3.cell? _=_:=cel hGB o5
     replace c9:w3.cell? _=_:=cel hGB c9
     have HB3:=Lib.hid (Below.call HB2.out hGB)
     clear hGB
     cases hH:hasB st.c.procs st.v pid with
     | false=>
      have HH:Hid (st.has pid=false):=hH
      go_wp2
      go_ret
      exact ⟨by rw [← HCE.out];simp [checkE,HR.out,h9,h1,HH.out],HB3.out⟩
     | true=>
      have HH:Hid (st.has pid=true):=hH
      clear hH
      by_cases h5:kd=5
      ·subst h5
       go_wp2_with fail
       have hcb:=bytes_any (HI.out.below HB3.out) pid ad n 1 HP.out HK.out HN.out
       refine hcb.mono ?_
       clear hcb
       rintro e w4 ⟨rfl,hb4⟩
       have HB4:=Lib.hid (Below.call HB3.out hb4)
       clear hb4
       go_wp2
       go_ret
       exact ⟨by rw [← HCE.out];simp [checkE,HR.out,HH.out],HB4.out⟩
      ·have d5:decide (kd=5)=false:=decide_eq_false h5
       have b5:(kd == 5)=false:=by simpa using h5
       by_cases h6:kd=6
       ·subst h6
        go_wp2_with fail
        have hcb:=bytes_any (HI.out.below HB3.out) pid ad dn 2 HP.out HK.out (WalkArith.wf_i64 ⟨by omega,by have:=HDL.out;omega⟩)
        refine hcb.mono ?_
        clear hcb
        rintro e w4 ⟨rfl,hb4⟩
        have HB4:=Lib.hid (Below.call HB3.out hb4)
        clear hb4
        go_wp2
        go_ret
        exact ⟨by rw [← HCE.out];simp [checkE,HR.out,HH.out,HD.out],HB4.out⟩
       ·have d6:decide (kd=6)=false:=decide_eq_false h6
        have b6:(kd == 6)=false:=by simpa using h6
        by_cases h7:kd=7
        ·subst h7
         go_wp2
         go_ret
         exact ⟨by rw [← HCE.out];simp [checkE,HR.out,HH.out,HF.out],HB3.out⟩
        ·have d7:decide (kd=7)=false:=decide_eq_false h7
         have b7:(kd == 7)=false:=by simpa using h7
         by_cases h8:kd=8
         ·subst h8
          go_wp2
          go_ret
          exact ⟨by rw [← HCE.out];simp [checkE,HR.out,HH.out],HB3.out⟩
         ·have d8:decide (kd=8)=false:=decide_eq_false h8
          have b8:(kd == 8)=false:=by simpa using h8
          go_wp2_with fail
          have hct:=turned_any (HI.out.below HB3.out) ⟨kd,pid,ad,n,pr,d⟩ a dn dc HP.out HK.out HN.out
          refine hct.mono ?_
          clear hct
          rintro e w4 ⟨va,vn,vc,rfl,_,hb4⟩
          have HB4:=Lib.hid (Below.call HB3.out hb4)
          clear hb4
          go_wp2
          go_ret
          exact ⟨by rw [← HCE.out];simp [checkE,HR.out,HH.out,h9,h1,h5,h6,h7,h8],HB4.out⟩
 ·have df:decide (NP=PR)=false:=decide_eq_false hf
  have bf:(NP == PR)=false:=by simpa using hf
  have HF:Hid (st.full=0):=by show st.full=0;rw [HFU.out,if_neg hf]
  go_wp2_with fail
  have hcr:=opright_any a dn dc w1 ⟨kd,pid,ad,n,pr,d⟩ HD.out
  refine hcr.mono ?_
  clear hcr
  rintro e w2 ⟨rfl,hb2⟩
  replace o0:w2.cell? _=_:=cel hb2 o0
  replace o1:w2.cell? _=_:=cel hb2 o1
  replace o2:w2.cell? _=_:=cel hb2 o2
  replace o3:w2.cell? _=_:=cel hb2 o3
  replace o4:w2.cell? _=_:=cel hb2 o4
  replace o5:w2.cell? _=_:=cel hb2 o5
  replace c9:w2.cell? _=_:=cel hb2 c9
  have HB2:=Lib.hid (Below.call HB1.out hb2)
  clear hb2
  cases hR:rightOp ⟨kd,pid,ad,n,pr,d⟩ with
  | false=>
   go_wp2
   go_ret
   exact ⟨by rw [← HCE.out];simp [checkE,hR],HB2.out⟩
  | true=>
   have HR:=Lib.hid hR;clear hR
   by_cases h9:kd=9
   ·subst h9
    go_wp2
    go_ret
    exact ⟨by rw [← HCE.out];simp [checkE,HR.out],HB2.out⟩
   ·have d9:decide (kd=9)=false:=decide_eq_false h9
    have b9:(kd == 9)=false:=by simpa using h9
    by_cases h1:kd=1
    ·subst h1
     go_wp2
     go_ret
     exact ⟨by rw [← HCE.out];simp [checkE,HR.out,HF.out],HB2.out⟩
    ·have d1:decide (kd=1)=false:=decide_eq_false h1
     have b1:(kd == 1)=false:=by simpa using h1
     go_wp2_with fail
     refine' reg_free (G:=Kept) (pickF [eqV _,eqV _,eqV _,eqV _,eqV _,eqV _,eqV _,eqV _,eqV _]) [33,34,35,36,37,38,39,40,32] [[],[0],[1],[2],[],[4],[3,5],[6],[7]] [0,1,2,3,4,5,6,7,8] (by kernel_rfl) Kept.refl Kept.trans (pick_stays ⟨eS _,eS _,eS _,eS _,eS _,eS _,eS _,eS _,eS _,trivial⟩) 76 rfl (by kernel_rfl) (by kernel_rfl) rfl rfl ?r3obl ?r3fin
     case r3obl=>
      refine ⟨?r3o0,?r3o1,?r3o2,?r3o3,?r3o4,?r3o5,?r3o6,?r3o7,?r3o8,trivial⟩
      case r3o0 | r3o4=>
       intro w3 hG;refine t1o (by rfl) ?_;intro K hK;go_simp;refine hK _ _ ⟨rfl,Kept.refl _,?_⟩;show _=_;simp only [gv1];rfl
      case r3o1 | r3o2=>
       intro w3 hG;intro va ha;change _=_ at ha;subst ha;refine t1o (by rfl) ?_;intro K hK;simp only [gv2];go_simp;refine hK _ _ ⟨rfl,Kept.refl _,?_⟩;show _=_;simp only [gv1];rfl
      case r3o3=>
       intro w3 hG;intro v2 h2;change _=_ at h2;subst h2;refine t1o (by rfl) ?_;intro K hK;simp only [gv2]
       have hGB:=kept_0 hG
       have hc:=cel hGB c9
       go_simp;refine hK _ _ ⟨rfl,Kept.refl _,?_⟩;show _=_;simp only [gv1];rfl
      case r3o5=>
       intro w3 hG;intro v4 h4;change _=_ at h4;subst h4;refine t1o (by rfl) ?_;intro K hK;simp only [gv2]
       have hGB:=kept_0 hG
       have hc:=cel hGB o1
       go_simp;refine hK _ _ ⟨rfl,Kept.refl _,?_⟩;show _=_;simp only [gv1];rfl
      case r3o6=>
       intro w3 hG;intro v3 h3;change _=_ at h3;subst h3;intro v5 h5;change _=_ at h5;subst h5;refine t1o (by rfl) ?_;intro K hK;simp only [gv2];go_simp
       have hch:=has_any h.sb st.c.procs st.v pid w3 (HS2.out.below (Below.call HB2.out (kept_0 hG))) HPR2.out
       refine hch.mono ?_
       rintro e w4 ⟨rfl,rfl⟩
       refine hK _ _ ⟨rfl,Kept.refl _,?_⟩;show _=_;simp only [gv1];rfl
      case r3o7 | r3o8=>
       intro w3 hG;intro va ha;change _=_ at ha;subst ha;refine t1o (by rfl) ?_;intro K hK;simp only [gv2];go_simp;refine hK _ _ ⟨rfl,Kept.refl _,?_⟩;show _=_;simp only [gv1];rfl
     intro w3 hG;intro v0 h0;change _=_ at h0;subst h0;intro v1 h1;change _=_ at h1;subst h1;intro v2 h2;change _=_ at h2;subst h2;intro v3 h3;change _=_ at h3;subst h3;intro v4 h4;change _=_ at h4;subst h4;intro v5 h5;change _=_ at h5;subst h5;intro v6 h6;change _=_ at h6;subst h6;intro v7 h7;change _=_ at h7;subst h7;intro v8 h8;change _=_ at h8;subst h8
     simp only [Given,gv2]
     have hGB:=kept_0 hG
     clear hG
     replace o0:w3.cell? _=_:=cel hGB o0
     replace o1:w3.cell? _=_:=cel hGB o1
     replace o2:w3.cell? _=_:=cel hGB o2
     replace o3:w3.cell? _=_:=cel hGB o3
     replace o4:w3.cell? _=_:=cel hGB o4
     replace o5:w3.cell? _=_:=cel hGB o5
     replace c9:w3.cell? _=_:=cel hGB c9
     have HB3:=Lib.hid (Below.call HB2.out hGB)
     clear hGB
     cases hH:hasB st.c.procs st.v pid with
     | false=>
      have HH:Hid (st.has pid=false):=hH
      go_wp2
      go_ret
      exact ⟨by rw [← HCE.out];simp [checkE,HR.out,h9,h1,HH.out],HB3.out⟩
     | true=>
      have HH:Hid (st.has pid=true):=hH
      clear hH
      by_cases h5:kd=5
      ·subst h5
       go_wp2_with fail
       have hcb:=bytes_any (HI.out.below HB3.out) pid ad n 1 HP.out HK.out HN.out
       refine hcb.mono ?_
       clear hcb
       rintro e w4 ⟨rfl,hb4⟩
       have HB4:=Lib.hid (Below.call HB3.out hb4)
       clear hb4
       go_wp2
       go_ret
       exact ⟨by rw [← HCE.out];simp [checkE,HR.out,HH.out],HB4.out⟩
      ·have d5:decide (kd=5)=false:=decide_eq_false h5
       have b5:(kd == 5)=false:=by simpa using h5
       by_cases h6:kd=6
       ·subst h6
        go_wp2_with fail
        have hcb:=bytes_any (HI.out.below HB3.out) pid ad dn 2 HP.out HK.out (WalkArith.wf_i64 ⟨by omega,by have:=HDL.out;omega⟩)
        refine hcb.mono ?_
        clear hcb
        rintro e w4 ⟨rfl,hb4⟩
        have HB4:=Lib.hid (Below.call HB3.out hb4)
        clear hb4
        go_wp2
        go_ret
        exact ⟨by rw [← HCE.out];simp [checkE,HR.out,HH.out,HD.out],HB4.out⟩
       ·have d6:decide (kd=6)=false:=decide_eq_false h6
        have b6:(kd == 6)=false:=by simpa using h6
        by_cases h7:kd=7
        ·subst h7
         go_wp2
         go_ret
         exact ⟨by rw [← HCE.out];simp [checkE,HR.out,HH.out,HF.out],HB3.out⟩
        ·have d7:decide (kd=7)=false:=decide_eq_false h7
         have b7:(kd == 7)=false:=by simpa using h7
         by_cases h8:kd=8
         ·subst h8
          go_wp2
          go_ret
          exact ⟨by rw [← HCE.out];simp [checkE,HR.out,HH.out],HB3.out⟩
         ·have d8:decide (kd=8)=false:=decide_eq_false h8
          have b8:(kd == 8)=false:=by simpa using h8
          go_wp2_with fail
          have hct:=turned_any (HI.out.below HB3.out) ⟨kd,pid,ad,n,pr,d⟩ a dn dc HP.out HK.out HN.out
          refine hct.mono ?_
          clear hct
          rintro e w4 ⟨va,vn,vc,rfl,_,hb4⟩
          have HB4:=Lib.hid (Below.call HB3.out hb4)
          clear hb4
          go_wp2
          go_ret
          exact ⟨by rw [← HCE.out];simp [checkE,HR.out,HH.out,h9,h1,h5,h6,h7,h8],HB4.out⟩
end
section
variable (pid ad n pr:Int) (a:Option Addr) (dn dc:Nat) (w:World) (mb:Nat)
theorem change_1:Calls Tryz.prog 66 #[.pointer (some ⟨mb,0,none⟩),.agg #[.int .i64 1,.int .i64 pid,.int .i64 ad,.int .i64 n,.int .i64 pr,.slice a dn dc]] w fun e w'=>e = .returned (.iface 126 (.agg #[]))∧Below w.heap.size w w':=by
 have HB:=Lib.hid (below_a w (.cells #[.int .i64 1,.int .i64 pid,.int .i64 ad,.int .i64 n,.int .i64 pr,.slice a dn dc] 39))
 go_enter Tryz.func66,Tryz.ntmps66
 go_wp2
 go_ret
 exact ⟨rfl,HB.out⟩
theorem change_5:Calls Tryz.prog 66 #[.pointer (some ⟨mb,0,none⟩),.agg #[.int .i64 5,.int .i64 pid,.int .i64 ad,.int .i64 n,.int .i64 pr,.slice a dn dc]] w fun e w'=>e = .returned (.iface 134 (.agg #[]))∧Below w.heap.size w w':=by
 have HB:=Lib.hid (below_a w (.cells #[.int .i64 5,.int .i64 pid,.int .i64 ad,.int .i64 n,.int .i64 pr,.slice a dn dc] 39))
 go_enter Tryz.func66,Tryz.ntmps66
 go_wp2
 go_ret
 exact ⟨rfl,HB.out⟩
theorem change_6:Calls Tryz.prog 66 #[.pointer (some ⟨mb,0,none⟩),.agg #[.int .i64 6,.int .i64 pid,.int .i64 ad,.int .i64 n,.int .i64 pr,.slice a dn dc]] w fun e w'=>e = .returned (.iface 136 (.agg #[]))∧Below w.heap.size w w':=by
 have HB:=Lib.hid (below_a w (.cells #[.int .i64 6,.int .i64 pid,.int .i64 ad,.int .i64 n,.int .i64 pr,.slice a dn dc] 39))
 go_enter Tryz.func66,Tryz.ntmps66
 go_wp2
 go_ret
 exact ⟨rfl,HB.out⟩
theorem change_7:Calls Tryz.prog 66 #[.pointer (some ⟨mb,0,none⟩),.agg #[.int .i64 7,.int .i64 pid,.int .i64 ad,.int .i64 n,.int .i64 pr,.slice a dn dc]] w fun e w'=>e = .returned (.iface 138 (.agg #[]))∧Below w.heap.size w w':=by
 have HB:=Lib.hid (below_a w (.cells #[.int .i64 7,.int .i64 pid,.int .i64 ad,.int .i64 n,.int .i64 pr,.slice a dn dc] 39))
 go_enter Tryz.func66,Tryz.ntmps66
 go_wp2
 go_ret
 exact ⟨rfl,HB.out⟩
theorem change_8:Calls Tryz.prog 66 #[.pointer (some ⟨mb,0,none⟩),.agg #[.int .i64 8,.int .i64 pid,.int .i64 ad,.int .i64 n,.int .i64 pr,.slice a dn dc]] w fun e w'=>e = .returned (.iface 139 (.agg #[]))∧Below w.heap.size w w':=by
 have HB:=Lib.hid (below_a w (.cells #[.int .i64 8,.int .i64 pid,.int .i64 ad,.int .i64 n,.int .i64 pr,.slice a dn dc] 39))
 go_enter Tryz.func66,Tryz.ntmps66
 go_wp2
 go_ret
 exact ⟨rfl,HB.out⟩
theorem change_9:Calls Tryz.prog 66 #[.pointer (some ⟨mb,0,none⟩),.agg #[.int .i64 9,.int .i64 pid,.int .i64 ad,.int .i64 n,.int .i64 pr,.slice a dn dc]] w fun e w'=>e = .returned (.iface 141 (.agg #[]))∧Below w.heap.size w w':=by
 have HB:=Lib.hid (below_a w (.cells #[.int .i64 9,.int .i64 pid,.int .i64 ad,.int .i64 n,.int .i64 pr,.slice a dn dc] 39))
 go_enter Tryz.func66,Tryz.ntmps66
 go_wp2
 go_ret
 exact ⟨rfl,HB.out⟩
end
section
variable {No:Nat→Prop} {h:McH} {st:Mc} {w:World}
set_option maxHeartbeats 1000000 in
theorem change_m (i:McIn w No h st) (o:Opn) (a:Option Addr) (dn dc:Nat) (hp:(Lit.int .i64 o.pid).wf=true) (hk:(Lit.int .i64 o.at_).wf=true) (hn:(Lit.int .i64 o.n).wf=true) (hkd:o.kind=2∨o.kind=3∨o.kind=4) :
  Calls Tryz.prog 66 #[.pointer (some ⟨h.m,0,none⟩),.agg #[.int .i64 o.kind,.int .i64 o.pid,.int .i64 o.at_,.int .i64 o.n,.int .i64 o.prot,.slice a dn dc]] w fun e w'=>∃ a n c,e = .returned (.iface 130 (.agg #[.slice a n c]))∧(turnE st.c (st.rs o.pid) o=0→OwnsS Rg.cells 3 110 w' w.heap.size (.slice a n c) (turnL (st.rs o.pid) o))∧Below w.heap.size w w':=by
 obtain ⟨kd,pid,ad,n,pr,d⟩:=o
 dsimp only at hp hk hn hkd ⊢
 have hb0:=below_a w (.cells #[.int .i64 kd,.int .i64 pid,.int .i64 ad,.int .i64 n,.int .i64 pr,.slice a dn dc] 39)
 have hrow:=heap_alloc_new w (.cells #[.int .i64 kd,.int .i64 pid,.int .i64 ad,.int .i64 n,.int .i64 pr,.slice a dn dc] 39)
 obtain ⟨o0,o1,o2,o3,o4,o5⟩:=cells6 hrow
 have hct:=turned_any (i.below hb0) ⟨kd,pid,ad,n,pr,d⟩ a dn dc hp hk hn
 have HC:=Lib.hid hct;have HB0:=Lib.hid hb0
 have z1:decide (kd=1)=false:=decide_eq_false (by omega)
 have y1:(kd == 1)=false:=by simp;omega
 have z5:decide (kd=5)=false:=decide_eq_false (by omega)
 have y5:(kd == 5)=false:=by simp;omega
 have z6:decide (kd=6)=false:=decide_eq_false (by omega)
 have y6:(kd == 6)=false:=by simp;omega
 have z7:decide (kd=7)=false:=decide_eq_false (by omega)
 have y7:(kd == 7)=false:=by simp;omega
 have z8:decide (kd=8)=false:=decide_eq_false (by omega)
 have y8:(kd == 8)=false:=by simp;omega
 have z9:decide (kd=9)=false:=decide_eq_false (by omega)
 have y9:(kd == 9)=false:=by simp;omega
 clear hct hb0 hrow i hp hk hn hkd
 go_enter Tryz.func66,Tryz.ntmps66
 go_wp2_with fail
 refine HC.out.mono ?_
 rintro e w2 ⟨va,vn,vc,rfl,hov,hb2⟩
 have HO:=Lib.hid hov
 have HB2:=Lib.hid (Below.call HB0.out hb2)
 have HSZ:=Lib.hid HB0.out.size;clear hov hb2
 go_wp2
 go_ret
 exact ⟨_,_,_,rfl,fun e=>(HO.out e).mono HSZ.out,HB2.out⟩
end
def Bytes (l:List Int):Prop:=∀ x ∈ l,0≤x∧x≤255
theorem RdAt.bytes {w:World} {a:Option Addr} {n c:Nat} {l:List Int} (h:RdAt .u8 w a n c l):Bytes l:=fun x hx=>wf_u8_bd (h.wf x hx)
theorem s8:Tryz.prog.underlying 5=some (.int .u8):=Tryz.underlying5
theorem su:Tryz.prog.underlying 9=some .string:=Tryz.underlying9
theorem str_inj {a b:List Int} (ha:Bytes a) (hb:Bytes b) (h:(strOfNums a).toList=(strOfNums b).toList):a=b:=by
 rw [ByteArray.toList_eq,ByteArray.toList_eq,strOfNums_data,strOfNums_data] at h
 have hl:a.length=b.length:=by simpa using congrArg List.length h
 apply List.ext_getElem hl
 intro i h1 h2
 have e:=congrArg (fun l=>l[i]?) h
 simp only [List.getElem?_map,List.getElem?_eq_getElem h1,List.getElem?_eq_getElem h2,Option.map_some,Option.some.injEq] at e
 obtain ⟨a1,a2⟩:=ha _ (List.getElem_mem h1)
 obtain ⟨b1,b2⟩:=hb _ (List.getElem_mem h2)
 have e2:=congrArg UInt8.toNat e
 simp only [UInt8.toNat_ofNat'] at e2
 omega
/-- A slice that reads as these bytes. -/
def isBytes (l:List Int) (v:Value) (w:World):Prop:=∃ a n c,v = .slice a n c∧RdAt .u8 w a n c l
theorem isBytes_stays (l:List Int):Stays Kept (isBytes l):=by
 rintro v w w' ⟨a,n,c,rfl,h⟩ hk
 exact ⟨a,n,c,rfl,h.below hk⟩
theorem RdAt.isBytes {w:World} {a:Option Addr} {n c:Nat} {l:List Int} (h:RdAt .u8 w a n c l):isBytes l (.slice a n c) w:=⟨_,_,_,rfl,h⟩

section
variable {No:Nat→Prop} {h:McH} {st:Mc} {w:World}
def vlen:Value→Nat
 | .slice _ n _=>n
 | _=>0
theorem loadL_len (page:Int) (L:List (Int × List Int)) (k:Int) (n:Nat):(loadL page L k n).length=n:=by simp [loadL]
theorem loadL_more (page:Int) (L:List (Int × List Int)) (k:Int) (n m:Nat):loadL page L k (n+m)=loadL page L k n ++ loadL page L (k+n) m:=by
 unfold loadL
 rw [List.range_add,List.map_append,List.map_map]
 congr 1
 refine List.map_congr_left (fun i _=>?_)
 simp only [Function.comp]
 have:k+((n+i:Nat):Int)=k+n+i:=by omega
 rw [this]
theorem loadL_page {page:Int} (hp:16≤page) {L:List (Int × List Int)} {k:Int} {m:Nat} (hl:((pgB page L (k / page)).length:Int)=page) (hk:k % page+m≤page):loadL page L k m=((pgB page L (k / page)).drop (k % page).toNat).take m:=by
 have h0:=Int.emod_nonneg k (by omega:page ≠ 0)
 have hdm:=Int.mul_ediv_add_emod k page
 refine List.ext_getElem (by simp [loadL];omega) (fun i h1 h2=>?_)
 have hi:i < m:=by simpa [loadL] using h1
 have e1:(k+(i:Int)) / page=k / page∧(k+(i:Int)) % page=k % page+i:=by
  have e:k+(i:Int)=page * (k / page)+(k % page+i):=by omega
  constructor
  ·rw [e,Int.mul_add_ediv_left _ _ (by omega:page ≠ 0),Int.ediv_eq_zero_of_lt (a:=k % page+i) (b:=page) (by omega) (by omega),Int.add_zero]
  ·rw [e,Int.mul_add_emod_self_left,Int.emod_eq_of_lt (a:=k % page+i) (b:=page) (by omega) (by omega)]
 simp only [loadL,List.getElem_map,List.getElem_range,e1.1,e1.2,List.getElem_take,List.getElem_drop]
 have e2:(k % page+(i:Int)).toNat=(k % page).toNat+i:=by omega
 rw [e2,nth_eq (by omega)]
theorem RdAt.dropM {w:World} {b o n c:Nat} {l:List Int} {kd:IntKind} (h:RdAt kd w (some ⟨b,o,none⟩) n c l) (k:Nat) (hk:k≤n):RdAt kd w (some ⟨b,o+k,none⟩) (n - k) (c - k) (l.drop k):=by
 have hl:=h.len
 have hc:=h.cap
 have hm:=h.max
 refine ⟨by rw [List.length_drop,hl],by omega,by omega,fun i hi=>?_,fun x hx=>h.wf x (List.mem_of_mem_drop hx),fun e=>by cases e⟩
 obtain ⟨b',o',e,hcl⟩:=h.cell (k+i) (by omega)
 simp only [Option.some.injEq,Addr.mk.injEq] at e
 obtain ⟨rfl,rfl,_⟩:=e
 refine ⟨b,o+k,rfl,?_⟩
 rw [Nat.add_assoc,hcl]
 simp [nth,List.getD,List.getElem?_drop]
set_option maxHeartbeats 2000000 in
theorem load_any (i:McIn w No h st) (p k:Int) (n:Nat) (hp:(Lit.int .i64 p).wf=true) (hk0:0≤k) (hk1:k≤268435456) (hn:n≤1048576) :
  Calls Tryz.prog 71 #[.pointer (some ⟨h.m,0,none⟩),.int .i64 p,.int .i64 k,.int .i64 n] w (GivesBytes (loadL st.c.page (st.ms p) k n) w):=by
 obtain ⟨c4,c6,c7,c8,c9,c10,c11⟩:=i.cells
 have hpg:=i.ok.cf.page
 have hpl:=fun x=>(pgOk_B hpg.1 (fun y hy=>(i.ok.pg p y hy).1) x).1
 obtain ⟨PG,hPG⟩:∃ x,st.c.page=x:=⟨_,rfl⟩
 rw [hPG] at c4 hpg hpl ⊢;have HPG:=Lib.hid hPG;have HI:=Lib.hid i;have HP:=Lib.hid hp;have HPL:=Lib.hid hpl
 have hst:Owns .u8 5 w w.heap.size (.slice none 0 0) (loadL PG (st.ms p) k 0)∧Below w.heap.size w w:=⟨Owns.nil _ _ _ _,Below.refl _ _⟩
 have ST:=Lib.hid hst
 have hz:¬ PG=0:=by omega
 clear c6 c7 c8 c9 c10 c11 i hPG hpl hst
 go_enter Tryz.func71,Tryz.ntmps71
 go_wp2_with fail
 go_loopw [9] (fun v wr=>∃ q:Nat,q≤n∧Hid (Owns .u8 5 wr w.heap.size v (loadL PG (st.ms p) k q)∧Below w.heap.size w wr)) (fun v _=>n - vlen v)
 case atStart=>exact ⟨0,by omega,ST⟩
 case round=>
  obtain ⟨q,hq,HR⟩:=hrel
  obtain ⟨oa,oc,rfl⟩:=HR.out.1.shapeN q (loadL_len _ _ _ _)
  have HBQ:=Lib.hid HR.out.2
  have c4q:=cel HBQ.out c4
  by_cases hlt:q < n
  ·have dl:decide ((q:Int) < (n:Int))=true:=decide_eq_true (by omega)
   have hs1:IntKind.i64.wrap (k+q)=k+q:=by rw [IntKind.wrap_i64];omega
   obtain ⟨R,hR⟩:∃ R:Nat,(k+q) % PG=(R:Int):=⟨((k+q) % PG).toNat,(Int.toNat_of_nonneg (Int.emod_nonneg _ (by omega))).symm⟩
   have hRl:(R:Int) < PG:=by rw [← hR];exact Int.emod_lt_of_pos _ (by omega)
   have hq1:(k+q).tdiv PG=(k+q) / PG:=Int.tdiv_eq_ediv_of_nonneg (by omega)
   have hm1:(k+q).tmod PG=(R:Int):=by rw [Int.tmod_eq_emod_of_nonneg (by omega),hR]
   have hb1:0≤(k+q) / PG∧(k+q) / PG≤k+q:=⟨Int.ediv_nonneg (by omega) (by omega),Int.ediv_le_self _ (by omega)⟩
   have hs3:IntKind.i64.wrap ((k+q) / PG)=(k+q) / PG:=by rw [IntKind.wrap_i64];omega
   have hs4:IntKind.i64.wrap (R:Int)=(R:Int):=by rw [IntKind.wrap_i64];omega
   have HWQ:=Lib.hid (show (Lit.int .i64 ((k+q) / PG)).wf=true from WalkArith.wf_i64 ⟨by omega,by omega⟩)
   have HRL:=Lib.hid hRl;have HRE:=Lib.hid hR;clear hb1 hR;go_wp2_with fail
   refine' reg_free (G:=Kept) (pickF [eqV _,eqV _,eqV _,eqV _,eqV _,eqV _,eqV _,eqV _,eqV _,isBytes (pgB PG (st.ms p) ((k+q) / PG)),eqV _,eqV _,eqV _,eqV _,eqV _,eqV _,eqV _,isBytes ((pgB PG (st.ms p) ((k+q) / PG)).drop R),isBytes ((pgB PG (st.ms p) ((k+q) / PG)).drop R)]) [20,21,22,23,24,25,26,27,28,29,30,31,32,33,34,35,36,37,11] [[],[],[],[],[3],[4],[5],[6],[2,7],[0,1,8],[],[],[11],[12],[13],[14],[10,15],[9,16],[17]] [0,1,2,3,4,5,6,7,8,9,10,11,12,13,14,15,16,17,18] (by kernel_rfl) Kept.refl Kept.trans (pick_stays ⟨eS _,eS _,eS _,eS _,eS _,eS _,eS _,eS _,eS _,isBytes_stays _,eS _,eS _,eS _,eS _,eS _,eS _,eS _,isBytes_stays _,isBytes_stays _,trivial⟩) 50 rfl (by kernel_rfl) (by kernel_rfl) rfl rfl ?r1obl ?r1fin
   case r1obl=>
    refine ⟨?r1o0,?r1o1,?r1o2,?r1o3,?r1o4,?r1o5,?r1o6,?r1o7,?r1o8,?r1o9,?r1o10,?r1o11,?r1o12,?r1o13,?r1o14,?r1o15,?r1o16,?r1o17,?r1o18,trivial⟩
    case r1o0 | r1o1 | r1o2 | r1o3 | r1o10 | r1o11=>
     intro w1 hG;refine t1o (by rfl) ?_;intro K hK;go_simp;refine hK _ _ ⟨rfl,Kept.refl _,?_⟩;show _=_;simp only [gv1];rfl
    case r1o4 | r1o5 | r1o6=>
     intro w1 hG;intro va ha;change _=_ at ha;subst ha;refine t1o (by rfl) ?_;intro K hK;simp only [gv2];go_simp;refine hK _ _ ⟨rfl,Kept.refl _,?_⟩;show _=_;simp only [gv1];rfl
    case r1o7=>
     intro w1 hG;intro v6 h6;change _=_ at h6;subst h6;refine t1o (by rfl) ?_;intro K hK;simp only [gv2]
     have hGB:=kept_0 hG
     have hc:=cel hGB c4q
     go_simp;refine hK _ _ ⟨rfl,Kept.refl _,?_⟩;show _=_;simp only [gv1];rfl
    case r1o8=>
     intro w1 hG;intro va ha;change _=_ at ha;subst ha;intro vb hb;change _=_ at hb;subst hb;refine t1o (by rfl) ?_;intro K hK;simp only [gv2];go_simp;refine hK _ _ ⟨rfl,Kept.refl _,?_⟩;show _=_;simp only [gv1];rfl
    case r1o9=>
     intro w1 hG;intro v0 h0;change _=_ at h0;subst h0;intro v1 h1;change _=_ at h1;subst h1;intro v8 h8;change _=_ at h8;subst h8;refine t1o (by rfl) ?_;intro K hK;simp only [gv2]
     have hGB:=kept_0 hG
     go_simp
     refine Calls.mono (page_any (HI.out.below (Below.call HBQ.out hGB)) p ((k+q) / PG) HP.out HWQ.out) ?_
     rintro e w2 ⟨a2,m2,c2,rfl,hr2,_,hb2⟩
     refine hK _ _ ⟨rfl,hb2,?_⟩
     show isBytes _ _ _
     simp only [gv1];rw [HPG.out] at hr2
     exact hr2.isBytes
    case r1o12 | r1o13 | r1o14=>
     intro w1 hG;intro va ha;change _=_ at ha;subst ha;refine t1o (by rfl) ?_;intro K hK;simp only [gv2];go_simp;refine hK _ _ ⟨rfl,Kept.refl _,?_⟩;show _=_;simp only [gv1];rfl
    case r1o15=>
     intro w1 hG;intro v14 h14;change _=_ at h14;subst h14;refine t1o (by rfl) ?_;intro K hK;simp only [gv2]
     have hGB:=kept_0 hG
     have hc:=cel hGB c4q
     go_simp;refine hK _ _ ⟨rfl,Kept.refl _,?_⟩;show _=_;simp only [gv1];rfl
    case r1o16=>
     intro w1 hG;intro va ha;change _=_ at ha;subst ha;intro vb hb;change _=_ at hb;subst hb;refine t1o (by rfl) ?_;intro K hK;simp only [gv2];go_simp;refine hK _ _ ⟨rfl,Kept.refl _,?_⟩;show _=_;simp only [gv1];rfl
    case r1o17=>
     intro w1 hG;intro v9 h9
     obtain ⟨a9,n9,c9,rfl,h9⟩:=h9
     intro v16 h16;change _=_ at h16;subst h16;refine t1o (by rfl) ?_;intro K hK;simp only [gv2]
     have hlen:=h9.len
     have hpl9:=HPL.out ((k+q) / PG)
     have hrl9:=HRL.out
     obtain ⟨gb,go,rfl,_⟩:=h9.cell 0 (by omega)
     have hR9:(R:Int)≤(n9:Int):=by omega
     have hRc:(R:Int)≤(c9:Int):=by have:=h9.cap;omega
     have hRn:R≤n9:=by omega
     have hcR:¬ c9=R:=by have:=h9.cap;omega
     have hrd:=(RdAt.dropM h9 R hRn).isBytes
     go_simp;refine hK _ _ ⟨rfl,Kept.refl _,?_⟩
     show isBytes _ _ _
     simp only [gv1]
     exact hrd
    case r1o18=>
     intro w1 hG;intro v17 h17
     obtain ⟨a17,n17,c17,rfl,h17⟩:=h17
     refine t1o (by rfl) ?_;intro K hK;simp only [gv2];go_simp;refine hK _ _ ⟨rfl,Kept.refl _,?_⟩
     show isBytes _ _ _
     simp only [gv1]
     exact h17.isBytes
   intro w1 hG;intro v0 h0;change _=_ at h0;subst h0;intro v1 h1;change _=_ at h1;subst h1;intro v2 h2;change _=_ at h2;subst h2;intro v3 h3;change _=_ at h3;subst h3;intro v4 h4;change _=_ at h4;subst h4;intro v5 h5;change _=_ at h5;subst h5;intro v6 h6;change _=_ at h6;subst h6;intro v7 h7;change _=_ at h7;subst h7;intro v8 h8;change _=_ at h8;subst h8
   intro v9 h9
   obtain ⟨a9,n9,c9,rfl,h9⟩:=h9
   intro v10 h10;change _=_ at h10;subst h10;intro v11 h11;change _=_ at h11;subst h11;intro v12 h12;change _=_ at h12;subst h12;intro v13 h13;change _=_ at h13;subst h13;intro v14 h14;change _=_ at h14;subst h14;intro v15 h15;change _=_ at h15;subst h15;intro v16 h16;change _=_ at h16;subst h16;intro v17 h17
   obtain ⟨a17,n17,c17,rfl,h17⟩:=h17
   intro v18 h18
   obtain ⟨a18,n18,c18,rfl,h18⟩:=h18
   simp only [Given,gv2]
   have hGB:=kept_0 hG
   clear hG
   have hr18:RdAt .u8 w1 a18 n18 c18 ((pgB PG (st.ms p) ((k+q) / PG)).drop R):=h18
   have hlen:=hr18.len
   have hpl9:=HPL.out ((k+q) / PG)
   have hrl9:=HRL.out
   rw [List.length_drop] at hlen
   have hcap:=hr18.cap
   have hn18:0 < n18:=by omega
   obtain ⟨gb,go,rfl,_⟩:=hr18.cell 0 hn18
   obtain ⟨J,hJ⟩:∃ J:Nat,min n18 (n - q)=J:=⟨_,rfl⟩
   have hmin:min (n18:Int) ((n:Int) - (q:Int))=(J:Int):=by omega
   have hs5:IntKind.i64.wrap ((n:Int) - (q:Int))=(n:Int) - (q:Int):=by rw [IntKind.wrap_i64];omega
   have hJ1:(J:Int)≤(n18:Int):=by omega
   have hJ2:(J:Int)≤(c18:Int):=by omega
   have hJ3:J≤c18:=by omega
   have hJ0:0 < J∧q+J≤n∧R+J≤PG:=by omega
   have hJe:loadL PG (st.ms p) k (q+J)=loadL PG (st.ms p) k q ++ ((pgB PG (st.ms p) ((k+q) / PG)).drop R).take J:=by
    rw [loadL_more,loadL_page hpg.1 hpl9 (by rw [HRE.out];omega),HRE.out]
    rfl
   have HJE:=Lib.hid hJe;have HJ0:=Lib.hid hJ0
   have hfr:=hr18.front J (by omega)
   have HFR:=Lib.hid hfr
   have ho1:=HR.out.1.below hGB
   have HO1:=Lib.hid ho1
   have HBL:=Lib.hid (Below.call HBQ.out hGB)
   have hql:(loadL PG (st.ms p) k q).length+J≤1099511627776:=by rw [loadL_len];omega
   have HQL:=Lib.hid hql;clear hfr ho1 hJe hJ0 hql hr18 hlen hpl9 hrl9 hcap hGB c4q hJ
   go_wp2_with (at_builtin;refine app_all u8T u8I (by decide) rfl (.tmp 38) (.tmp 47) rfl _ w.heap.size _ _ rfl HO1.out _ _ _ _ rfl HFR.out HQL.out HBL.out.size ?_;intro x1 w2 ho2 hg2)
   have HR2:Hid (Owns .u8 5 w2 w.heap.size x1 (loadL PG (st.ms p) k (q+J))∧Below w.heap.size w w2):=by
    refine ⟨by rw [HJE.out];exact ho2,?_⟩
    exact HBL.out.trans (hg2.below HBL.out.size (fun g hg=>(HO1.out.at_base g hg).1))
   obtain ⟨xa,xc,rfl⟩:=HR2.out.1.shapeN (q+J) (loadL_len _ _ _ _)
   clear ho2 hg2
   go_roundw
   case rel=>exact ⟨q+J,HJ0.out.2.1,HR2⟩
   case measure=>simp only [vlen];have:=HJ0.out;omega
  ·obtain rfl:q=n:=by omega
   have dl:decide ((q:Int) < (q:Int))=false:=decide_eq_false (by omega)
   clear hlt c4q
   go_wp2
   go_ret
   exact ⟨_,rfl,HR.out.1,HR.out.2⟩
end
end Go.Proofs.YtoepnbfifjgpfaaGreat
