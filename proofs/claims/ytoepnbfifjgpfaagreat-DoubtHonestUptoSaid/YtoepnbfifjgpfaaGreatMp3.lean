/- The document's machine: what an operation makes of a process's regions (regions). -/
import Derived.Test.YtoepnbfifjgpfaaGreatMu0
import Derived.Test.YtoepnbfifjgpfaaGreatMp2
import Derived.Test.YtoepnbfifjgpfaaGreatMu18
import Derived.Test.YtoepnbfifjgpfaaGreatMu13
import Derived.WalkKit
import Derived.ProofKit
import Derived.BigQuiet
import Derived.Deep.QuietTactic
import Derived.Lib.Hide
import Derived.RegionTactic
namespace Go.Proofs.YtoepnbfifjgpfaaGreat
set_option maxRecDepth 100000
open Go.RowKit
set_option linter.unusedSimpArgs false
section
variable {No:Nat→Prop} {h:RmH} {st:Mc} {w:World}
set_option maxHeartbeats 4000000 in
theorem rregs_2 (i:RmIn w No h st) (q:Int) (hq:st.has q=true) (pid k n pr:Int) (d:List Int) (a:Option Addr) (dn dc:Nat) (hk:(Lit.int .i64 k).wf=true) (hn:(Lit.int .i64 n).wf=true) :
  Calls Tryz.prog 30 #[.pointer (some ⟨h.m,0,none⟩),.pointer (some ⟨(h.pr q).b,0,none⟩),.agg #[.int .i64 2,.int .i64 pid,.int .i64 k,.int .i64 n,.int .i64 pr,.slice a dn dc]] w (GivesTurn (turnL (st.rs q) ⟨2,pid,k,n,pr,d⟩) (turnE st.c (st.rs q) ⟨2,pid,k,n,pr,d⟩) w):=by
 have hrow:=heap_alloc_new w (.cells #[.int .i64 2,.int .i64 pid,.int .i64 k,.int .i64 n,.int .i64 pr,.slice a dn dc] 39)
 have hba:=below_a w (.cells #[.int .i64 2,.int .i64 pid,.int .i64 k,.int .i64 n,.int .i64 pr,.slice a dn dc] 39)
 have i1:=i.below hba
 have hcn:=i.ok.cn q
 have hrg:=i.ok.cf.regions
 have hps:=i.ok.cf.pages
 have hSS:=Lib.hid (stretch_any i1 k n hk hn)
 have hk1:=wf_i64_bd hk
 have hn1:=wf_i64_bd hn
 obtain ⟨_,_,c7,_,_,_⟩:=i1.cells
 obtain ⟨ra,rn,rc,la,lc,z0,_,hsl,_⟩:=(i1.pr q hq).cell
 obtain ⟨o0,o1,o2,o3,o4,o5⟩:=cells6 hrow
 obtain ⟨BB,hBB⟩:∃ x,(h.pr q).b=x:=⟨_,rfl⟩
 rw [hBB] at z0 ⊢
 obtain ⟨L,hL⟩:∃ x,st.rs q=x:=⟨_,rfl⟩
 rw [hL] at hsl hcn ⊢
 have hT:turnE st.c L ⟨2,pid,k,n,pr,d⟩=if strB st.c k n=false then 1 else if mapE L k (k+n) pr=0∧st.c.regions < (mapL L k (k+n) pr).length then 6 else mapE L k (k+n) pr:=by
  have e1:turnE0 L ⟨2,pid,k,n,pr,d⟩=mapE L k (k+n) pr:=rfl
  have e2:turnL L ⟨2,pid,k,n,pr,d⟩=mapL L k (k+n) pr:=rfl
  unfold turnE
  rw [e1,e2]
 have hLL:turnL L ⟨2,pid,k,n,pr,d⟩=mapL L k (k+n) pr:=rfl
 have hS:strB st.c k n=decide (1≤n∧0≤k∧n≤st.c.pages∧k≤st.c.pages - n):=rfl
 rw [hT,hLL]
 obtain ⟨RG,hRG⟩:∃ x,st.c.regions=x:=⟨_,rfl⟩
 rw [hRG] at c7 hrg ⊢
 obtain ⟨SB,hSB⟩:∃ x,strB st.c k n=x:=⟨_,rfl⟩
 rw [hSB] at hSS hS ⊢
 have HR:Hid (RdS Rg.cells 3 (w.alloc (.cells #[.int .i64 2,.int .i64 pid,.int .i64 k,.int .i64 n,.int .i64 pr,.slice a dn dc] 39)) ra rn rc L):=hsl.1
 have HCN:Hid (Cn st.c.regions.toNat L):=hcn
 have HRG9:Hid (st.c.regions.toNat≤900):=by show _≤_;omega
 have HB0:=Lib.hid hba;have HROW:=Lib.hid hrow;clear hT hLL hsl hcn hBB hL hrow hba i i1 hSB
 cases SB with
 | false=>
  rw [if_pos rfl];clear hS hrg hps hRG
  go_enter Tryz.func30,Tryz.ntmps30
  go_wp2_with fail
  refine hSS.out.mono ?_
  rintro e w1 ⟨rfl,hb1⟩
  have HB1:=Lib.hid (Below.call HB0.out hb1)
  replace c7:=cel hb1 c7;replace z0:=cel hb1 z0;replace o0:=cel hb1 o0;replace o1:=cel hb1 o1;replace o2:=cel hb1 o2;replace o3:=cel hb1 o3;replace o4:=cel hb1 o4
  replace o5:=cel hb1 o5
  have HR1:=Lib.hid (HR.out.below hb1)
  clear hb1
  go_wp2
  go_ret2
  exact ⟨_,_,_,rfl,(fun h=>absurd h (by decide)),HB1.out⟩
 | true=>
  have hS2:1≤n∧0≤k∧n≤st.c.pages∧k≤st.c.pages - n:=of_decide_eq_true hS.symm
  rw [if_neg (by simp)]
  have hkn:k+n≤65536:=by omega
  have hk0:0≤k:=hS2.2.1
  have hn0:1≤n:=hS2.1
  have hlh:k < k+n:=by omega
  have hs:IntKind.i64.wrap (k+n)=k+n:=by rw [IntKind.wrap_i64];omega
  have HLO:=Lib.hid hk
  have HHI:Hid ((Lit.int .i64 (k+n)).wf=true):=WalkArith.wf_i64 ⟨by omega,by omega⟩
  clear hS hS2 hps hRG
  by_cases pa:pr < 0
  ·have da:decide (pr < 0)=true:=decide_eq_true pa
   have hE:mapE L k (k+n) pr=1:=by unfold mapE;rw [if_pos];cases e:rightB k (k+n) pr with | false=>rfl | true=>have:=rightB_iff e;omega
   rw [hE,if_neg (by simp)];clear hE
   go_enter Tryz.func30,Tryz.ntmps30
   go_wp2_with fail
   refine hSS.out.mono ?_
   rintro e w1 ⟨rfl,hb1⟩
   have HB1:=Lib.hid (Below.call HB0.out hb1)
   replace c7:=cel hb1 c7;replace z0:=cel hb1 z0;replace o0:=cel hb1 o0;replace o1:=cel hb1 o1;replace o2:=cel hb1 o2;replace o3:=cel hb1 o3;replace o4:=cel hb1 o4
   replace o5:=cel hb1 o5
   have HR1:=Lib.hid (HR.out.below hb1)
   clear hb1
   go_wp2
   go_ret2
   exact ⟨_,_,_,rfl,(fun h=>absurd h (by decide)),HB1.out⟩
  have da:decide (pr < 0)=false:=decide_eq_false pa
  by_cases pb:3 < pr
  ·have db:decide (3 < pr)=true:=decide_eq_true pb
   have hE:mapE L k (k+n) pr=1:=by unfold mapE;rw [if_pos];cases e:rightB k (k+n) pr with | false=>rfl | true=>have:=rightB_iff e;omega
   rw [hE,if_neg (by simp)];clear hE
   go_enter Tryz.func30,Tryz.ntmps30
   go_wp2_with fail
   refine hSS.out.mono ?_
   rintro e w1 ⟨rfl,hb1⟩
   have HB1:=Lib.hid (Below.call HB0.out hb1)
   replace c7:=cel hb1 c7;replace z0:=cel hb1 z0;replace o0:=cel hb1 o0;replace o1:=cel hb1 o1;replace o2:=cel hb1 o2;replace o3:=cel hb1 o3;replace o4:=cel hb1 o4
   replace o5:=cel hb1 o5
   have HR1:=Lib.hid (HR.out.below hb1)
   clear hb1
   go_wp2
   go_ret2
   exact ⟨_,_,_,rfl,(fun h=>absurd h (by decide)),HB1.out⟩
  have db:decide (3 < pr)=false:=decide_eq_false pb
  obtain ⟨LL,hLLx⟩:∃ x,mapL L k (k+n) pr=x:=⟨_,rfl⟩
  rw [hLLx];have HLL:=Lib.hid hLLx;clear hLLx
  obtain ⟨E,hEx⟩:∃ x,mapE L k (k+n) pr=x:=⟨_,rfl⟩
  rw [hEx];have HE:=Lib.hid hEx;clear hEx
  obtain ⟨TV,hTV⟩:∃ x,(if E=0∧RG < (LL.length:Int) then 6 else E)=x:=⟨_,rfl⟩
  rw [hTV];have HTV:=Lib.hid hTV;clear hTV
  go_enter Tryz.func30,Tryz.ntmps30
  go_wp2_with fail
  refine hSS.out.mono ?_
  rintro e w1 ⟨rfl,hb1⟩
  have HB1:=Lib.hid (Below.call HB0.out hb1)
  replace c7:=cel hb1 c7;replace z0:=cel hb1 z0;replace o0:=cel hb1 o0;replace o1:=cel hb1 o1;replace o2:=cel hb1 o2;replace o3:=cel hb1 o3;replace o4:=cel hb1 o4
  replace o5:=cel hb1 o5
  have HR1:=Lib.hid (HR.out.below hb1)
  clear hb1
  have hw1s:=HB1.out.size
  have HWS:=Lib.hid hw1s;clear hw1s;go_wp2_with fail
  obtain ⟨wB,hwB⟩:∃ x:World,x=w1:=⟨_,rfl⟩
  subst hwB
  refine' reg_free (G:=Kept) (pickF [eqV _,eqV _,eqV _,eqV _,eqV _,eqV _,eqV _,eqV _,eqV _,eqV _,eqV _,eqV _,(fun v w5=>∃ a n c,v = .tuple #[.slice a n c,.int .i64 E]∧OwnsS Rg.cells 3 110 w5 wB.heap.size (.slice a n c) LL),(fun v w5=>∃ a n c,v = .tuple #[.slice a n c,.int .i64 E]∧OwnsS Rg.cells 3 110 w5 wB.heap.size (.slice a n c) LL),(fun v w5=>∃ a n c,v = .slice a n c∧OwnsS Rg.cells 3 110 w5 wB.heap.size (.slice a n c) LL),eqV _,(fun v w5=>∃ a n c,v = .slice a n c∧OwnsS Rg.cells 3 110 w5 wB.heap.size (.slice a n c) LL),eqV _]) [36,37,38,39,40,41,42,43,44,45,46,47,48,35,49,50,9,10] [[],[0],[1],[2],[],[4],[],[6],[],[8],[7,9],[],[3,5,10,11],[12],[13],[13],[14],[15]] [0,1,2,3,4,5,6,7,8,9,10,11,12,13,14,15,16,17] (by kernel_rfl) Kept.refl Kept.trans (pick_stays ⟨eS _,eS _,eS _,eS _,eS _,eS _,eS _,eS _,eS _,eS _,eS _,eS _,(fun _ _ _ p b=>by obtain ⟨a,n,c,e,h1⟩:=p;exact ⟨a,n,c,e,h1.below b⟩),(fun _ _ _ p b=>by obtain ⟨a,n,c,e,h1⟩:=p;exact ⟨a,n,c,e,h1.below b⟩),(fun _ _ _ p b=>by obtain ⟨a,n,c,e,h1⟩:=p;exact ⟨a,n,c,e,h1.below b⟩),eS _,(fun _ _ _ p b=>by obtain ⟨a,n,c,e,h1⟩:=p;exact ⟨a,n,c,e,h1.below b⟩),eS _,trivial⟩) 97 rfl (by kernel_rfl) (by kernel_rfl) rfl rfl ?r1obl ?r1fin
  case r1obl=>
   refine ⟨?r1o0,?r1o1,?r1o2,?r1o3,?r1o4,?r1o5,?r1o6,?r1o7,?r1o8,?r1o9,?r1o10,?r1o11,?r1o12,?r1o13,?r1o14,?r1o15,?r1o16,?r1o17,trivial⟩
   case r1o0 | r1o4 | r1o6 | r1o8 | r1o11=>
    intro w1 hG;refine t1o (by rfl) ?_;intro K hK;go_simp;refine hK _ _ ⟨rfl,Kept.refl _,?_⟩;show _=_;simp only [gv1];rfl
   case r1o1 | r1o2=>
    intro w1 hG;intro va ha;change _=_ at ha;subst ha;refine t1o (by rfl) ?_;intro K hK;simp only [gv2];go_simp;refine hK _ _ ⟨rfl,Kept.refl _,?_⟩;show _=_;simp only [gv1];rfl
   case r1o3=>
    intro w1 hG;intro v2 h2;change _=_ at h2;subst h2;refine t1o (by rfl) ?_;intro K hK;simp only [gv2]
    have hcc:=cel (kept_0 hG) z0
    go_simp;refine hK _ _ ⟨rfl,Kept.refl _,?_⟩;show _=_;simp only [gv1];rfl
   case r1o5=>
    intro w1 hG;intro v4 h4;change _=_ at h4;subst h4;refine t1o (by rfl) ?_;intro K hK;simp only [gv2]
    have hcc:=cel (kept_0 hG) o2
    go_simp;refine hK _ _ ⟨rfl,Kept.refl _,?_⟩;show _=_;simp only [gv1];rfl
   case r1o7=>
    intro w1 hG;intro v6 h6;change _=_ at h6;subst h6;refine t1o (by rfl) ?_;intro K hK;simp only [gv2]
    have hcc:=cel (kept_0 hG) o2
    go_simp;refine hK _ _ ⟨rfl,Kept.refl _,?_⟩;show _=_;simp only [gv1];rfl
   case r1o9=>
    intro w1 hG;intro v8 h8;change _=_ at h8;subst h8;refine t1o (by rfl) ?_;intro K hK;simp only [gv2]
    have hcc:=cel (kept_0 hG) o3
    go_simp;refine hK _ _ ⟨rfl,Kept.refl _,?_⟩;show _=_;simp only [gv1];rfl
   case r1o10=>
    intro w1 hG;intro va ha;change _=_ at ha;subst ha;intro vb hb;change _=_ at hb;subst hb;refine t1o (by rfl) ?_;intro K hK;simp only [gv2];go_simp;refine hK _ _ ⟨rfl,Kept.refl _,?_⟩;show _=_;simp only [gv1];rfl
   case r1o12=>
    intro w1 hG;intro v3 h3;change _=_ at h3;subst h3;intro v5 h5;change _=_ at h5;subst h5;intro v10 h10;change _=_ at h10;subst h10;intro v11 h11;change _=_ at h11;subst h11;refine t1o (by rfl) ?_;intro K hK;simp only [gv2];go_simp
    have hcall:=refmap_out ra rn rc L k (k+n) pr w1 (HR1.out.below (kept_0 hG)) HCN.out HRG9.out HLO.out HHI.out
    rw [HLL.out,HE.out] at hcall
    refine Calls.mono hcall ?_
    rintro e w2 ⟨vv,rfl,hox,hbx⟩
    obtain ⟨a9,c9,rfl⟩:=hox.shape
    refine hK _ _ ⟨rfl,hbx,?_⟩
    exact ⟨_,_,_,rfl,hox.mono (kept_0 hG).size⟩
   case r1o13=>
    intro w1 hG;intro v12 h12
    obtain ⟨a12,n12,c12,rfl,h12⟩:=h12
    refine t1o (by rfl) ?_;intro K hK;simp only [gv2];go_simp;refine hK _ _ ⟨rfl,Kept.refl _,?_⟩
    exact ⟨_,_,_,rfl,h12⟩
   case r1o14=>
    intro w1 hG;intro v13 h13
    obtain ⟨a13,n13,c13,rfl,h13⟩:=h13
    refine t1o (by rfl) ?_;intro K hK;simp only [gv2];go_simp;refine hK _ _ ⟨rfl,Kept.refl _,?_⟩
    exact ⟨_,_,_,rfl,h13⟩
   case r1o15=>
    intro w1 hG;intro v13 h13
    obtain ⟨a13,n13,c13,rfl,h13⟩:=h13
    refine t1o (by rfl) ?_;intro K hK;simp only [gv2];go_simp;refine hK _ _ ⟨rfl,Kept.refl _,?_⟩;show _=_;simp only [gv1];rfl
   case r1o16=>
    intro w1 hG;intro v14 h14
    obtain ⟨a14,n14,c14,rfl,h14⟩:=h14
    refine t1o (by rfl) ?_;intro K hK;simp only [gv2];go_simp;refine hK _ _ ⟨rfl,Kept.refl _,?_⟩
    exact ⟨_,_,_,rfl,h14⟩
   case r1o17=>
    intro w1 hG;intro va ha;change _=_ at ha;subst ha;refine t1o (by rfl) ?_;intro K hK;simp only [gv2];go_simp;refine hK _ _ ⟨rfl,Kept.refl _,?_⟩;show _=_;simp only [gv1];rfl
  intro w1 hG;intro v0 h0;change _=_ at h0;subst h0;intro v1 h1;change _=_ at h1;subst h1;intro v2 h2;change _=_ at h2;subst h2;intro v3 h3;change _=_ at h3;subst h3;intro v4 h4;change _=_ at h4;subst h4;intro v5 h5;change _=_ at h5;subst h5;intro v6 h6;change _=_ at h6;subst h6;intro v7 h7;change _=_ at h7;subst h7;intro v8 h8;change _=_ at h8;subst h8
  intro v9 h9;change _=_ at h9;subst h9;intro v10 h10;change _=_ at h10;subst h10;intro v11 h11;change _=_ at h11;subst h11;intro v12 h12
  obtain ⟨a12,n12,c12,rfl,h12⟩:=h12
  intro v13 h13
  obtain ⟨a13,n13,c13,rfl,h13⟩:=h13
  intro v14 h14
  obtain ⟨a14,n14,c14,rfl,h14⟩:=h14
  intro v15 h15;change _=_ at h15;subst h15;intro v16 h16
  obtain ⟨a16,n16,c16,rfl,h16⟩:=h16
  intro v17 h17;change _=_ at h17;subst h17
  simp only [Given,gv2]
  have hb5:=kept_0 hG
  have HB5:=Lib.hid (Below.call HB1.out hb5)
  have HOW:=Lib.hid (h16.mono (show w.heap.size≤wB.heap.size from HWS.out))
  replace c7:=cel hb5 c7
  have hln:n16=LL.length:=by obtain ⟨x,y,e⟩:=h16.shape;injection e
  subst hln;clear hG h12 h13 h14 h16 hb5
  have HTV2:=HTV.out
  by_cases e0:E=0
  ·subst e0
   by_cases hg:RG < (LL.length:Int)
   ·have dg:decide (RG < (LL.length:Int))=true:=decide_eq_true hg
    obtain rfl:TV=6:=by rw [← HTV2];simp [hg]
    clear HTV2;clear hg;go_wp2_with fail
    go_ret2
    exact ⟨_,_,_,rfl,(fun h=>absurd h (by decide)),HB5.out⟩
   ·have dg:decide (RG < (LL.length:Int))=false:=decide_eq_false hg
    obtain rfl:TV=0:=by rw [← HTV2];simp [hg]
    clear HTV2;clear hg;go_wp2_with fail
    go_ret2
    exact ⟨_,_,_,rfl,(fun _=>HOW.out),HB5.out⟩
  ·have b0:(E == 0)=false:=by simpa using e0
   obtain rfl:TV=E:=by rw [← HTV2];simp [e0]
   clear HTV2;have HE0:=Lib.hid e0;clear e0;go_wp2_with fail
   go_ret2
   exact ⟨_,_,_,rfl,(fun h=>absurd h HE0.out),HB5.out⟩
set_option maxHeartbeats 4000000 in
theorem rregs_3 (i:RmIn w No h st) (q:Int) (hq:st.has q=true) (pid k n pr:Int) (d:List Int) (a:Option Addr) (dn dc:Nat) (hk:(Lit.int .i64 k).wf=true) (hn:(Lit.int .i64 n).wf=true) :
  Calls Tryz.prog 30 #[.pointer (some ⟨h.m,0,none⟩),.pointer (some ⟨(h.pr q).b,0,none⟩),.agg #[.int .i64 3,.int .i64 pid,.int .i64 k,.int .i64 n,.int .i64 pr,.slice a dn dc]] w (GivesTurn (turnL (st.rs q) ⟨3,pid,k,n,pr,d⟩) (turnE st.c (st.rs q) ⟨3,pid,k,n,pr,d⟩) w):=by
 have hrow:=heap_alloc_new w (.cells #[.int .i64 3,.int .i64 pid,.int .i64 k,.int .i64 n,.int .i64 pr,.slice a dn dc] 39)
 have hba:=below_a w (.cells #[.int .i64 3,.int .i64 pid,.int .i64 k,.int .i64 n,.int .i64 pr,.slice a dn dc] 39)
 have i1:=i.below hba
 have hcn:=i.ok.cn q
 have hrg:=i.ok.cf.regions
 have hps:=i.ok.cf.pages
 have hSS:=Lib.hid (stretch_any i1 k n hk hn)
 have hk1:=wf_i64_bd hk
 have hn1:=wf_i64_bd hn
 obtain ⟨_,_,c7,_,_,_⟩:=i1.cells
 obtain ⟨ra,rn,rc,la,lc,z0,_,hsl,_⟩:=(i1.pr q hq).cell
 obtain ⟨o0,o1,o2,o3,o4,o5⟩:=cells6 hrow
 obtain ⟨BB,hBB⟩:∃ x,(h.pr q).b=x:=⟨_,rfl⟩
 rw [hBB] at z0 ⊢
 obtain ⟨L,hL⟩:∃ x,st.rs q=x:=⟨_,rfl⟩
 rw [hL] at hsl hcn ⊢
 have hT:turnE st.c L ⟨3,pid,k,n,pr,d⟩=if strB st.c k n=false then 1 else if (0:Int)=0∧st.c.regions < (unL L k (k+n)).length then 6 else (0:Int):=by
  have e1:turnE0 L ⟨3,pid,k,n,pr,d⟩=(0:Int):=rfl
  have e2:turnL L ⟨3,pid,k,n,pr,d⟩=unL L k (k+n):=rfl
  unfold turnE
  rw [e1,e2]
 have hLL:turnL L ⟨3,pid,k,n,pr,d⟩=unL L k (k+n):=rfl
 have hS:strB st.c k n=decide (1≤n∧0≤k∧n≤st.c.pages∧k≤st.c.pages - n):=rfl
 rw [hT,hLL]
 obtain ⟨RG,hRG⟩:∃ x,st.c.regions=x:=⟨_,rfl⟩
 rw [hRG] at c7 hrg ⊢
 obtain ⟨SB,hSB⟩:∃ x,strB st.c k n=x:=⟨_,rfl⟩
 rw [hSB] at hSS hS ⊢
 have HR:Hid (RdS Rg.cells 3 (w.alloc (.cells #[.int .i64 3,.int .i64 pid,.int .i64 k,.int .i64 n,.int .i64 pr,.slice a dn dc] 39)) ra rn rc L):=hsl.1
 have HCN:Hid (Cn st.c.regions.toNat L):=hcn
 have HRG9:Hid (st.c.regions.toNat≤900):=by show _≤_;omega
 have HB0:=Lib.hid hba;have HROW:=Lib.hid hrow;clear hT hLL hsl hcn hBB hL hrow hba i i1 hSB
 cases SB with
 | false=>
  rw [if_pos rfl];clear hS hrg hps hRG
  go_enter Tryz.func30,Tryz.ntmps30
  go_wp2_with fail
  refine hSS.out.mono ?_
  rintro e w1 ⟨rfl,hb1⟩
  have HB1:=Lib.hid (Below.call HB0.out hb1)
  replace c7:=cel hb1 c7;replace z0:=cel hb1 z0;replace o0:=cel hb1 o0;replace o1:=cel hb1 o1;replace o2:=cel hb1 o2;replace o3:=cel hb1 o3;replace o4:=cel hb1 o4
  replace o5:=cel hb1 o5
  have HR1:=Lib.hid (HR.out.below hb1)
  clear hb1
  go_wp2
  go_ret2
  exact ⟨_,_,_,rfl,(fun h=>absurd h (by decide)),HB1.out⟩
 | true=>
  have hS2:1≤n∧0≤k∧n≤st.c.pages∧k≤st.c.pages - n:=of_decide_eq_true hS.symm
  rw [if_neg (by simp)]
  have hkn:k+n≤65536:=by omega
  have hk0:0≤k:=hS2.2.1
  have hn0:1≤n:=hS2.1
  have hlh:k < k+n:=by omega
  have hs:IntKind.i64.wrap (k+n)=k+n:=by rw [IntKind.wrap_i64];omega
  have HLO:=Lib.hid hk
  have HHI:Hid ((Lit.int .i64 (k+n)).wf=true):=WalkArith.wf_i64 ⟨by omega,by omega⟩
  clear hS hS2 hps hRG
  obtain ⟨LL,hLLx⟩:∃ x,unL L k (k+n)=x:=⟨_,rfl⟩
  rw [hLLx];have HLL:=Lib.hid hLLx;clear hLLx
  obtain ⟨TV,hTV⟩:∃ x,(if (0:Int)=0∧RG < (LL.length:Int) then 6 else (0:Int))=x:=⟨_,rfl⟩
  rw [hTV];have HTV:=Lib.hid hTV;clear hTV
  go_enter Tryz.func30,Tryz.ntmps30
  go_wp2_with fail
  refine hSS.out.mono ?_
  rintro e w1 ⟨rfl,hb1⟩
  have HB1:=Lib.hid (Below.call HB0.out hb1)
  replace c7:=cel hb1 c7;replace z0:=cel hb1 z0;replace o0:=cel hb1 o0;replace o1:=cel hb1 o1;replace o2:=cel hb1 o2;replace o3:=cel hb1 o3;replace o4:=cel hb1 o4
  replace o5:=cel hb1 o5
  have HR1:=Lib.hid (HR.out.below hb1)
  clear hb1
  have hw1s:=HB1.out.size
  have HWS:=Lib.hid hw1s;clear hw1s;go_wp2_with fail
  obtain ⟨wB,hwB⟩:∃ x:World,x=w1:=⟨_,rfl⟩
  subst hwB
  refine' reg_free (G:=Kept) (pickF [eqV _,eqV _,eqV _,eqV _,eqV _,eqV _,eqV _,eqV _,eqV _,eqV _,eqV _,(fun v w5=>∃ a n c,v = .slice a n c∧OwnsS Rg.cells 3 110 w5 wB.heap.size (.slice a n c) LL),(fun v w5=>∃ a n c,v = .slice a n c∧OwnsS Rg.cells 3 110 w5 wB.heap.size (.slice a n c) LL)]) [53,54,55,56,57,58,59,60,61,62,63,64,9] [[],[0],[1],[2],[],[4],[],[6],[],[8],[7,9],[3,5,10],[11]] [0,1,2,3,4,5,6,7,8,9,10,11,12] (by kernel_rfl) Kept.refl Kept.trans (pick_stays ⟨eS _,eS _,eS _,eS _,eS _,eS _,eS _,eS _,eS _,eS _,eS _,(fun _ _ _ p b=>by obtain ⟨a,n,c,e,h1⟩:=p;exact ⟨a,n,c,e,h1.below b⟩),(fun _ _ _ p b=>by obtain ⟨a,n,c,e,h1⟩:=p;exact ⟨a,n,c,e,h1.below b⟩),trivial⟩) 97 rfl (by kernel_rfl) (by kernel_rfl) rfl rfl ?r2obl ?r2fin
  case r2obl=>
   refine ⟨?r2o0,?r2o1,?r2o2,?r2o3,?r2o4,?r2o5,?r2o6,?r2o7,?r2o8,?r2o9,?r2o10,?r2o11,?r2o12,trivial⟩
   case r2o0 | r2o4 | r2o6 | r2o8=>
    intro w1 hG;refine t1o (by rfl) ?_;intro K hK;go_simp;refine hK _ _ ⟨rfl,Kept.refl _,?_⟩;show _=_;simp only [gv1];rfl
   case r2o1 | r2o2=>
    intro w1 hG;intro va ha;change _=_ at ha;subst ha;refine t1o (by rfl) ?_;intro K hK;simp only [gv2];go_simp;refine hK _ _ ⟨rfl,Kept.refl _,?_⟩;show _=_;simp only [gv1];rfl
   case r2o3=>
    intro w1 hG;intro v2 h2;change _=_ at h2;subst h2;refine t1o (by rfl) ?_;intro K hK;simp only [gv2]
    have hcc:=cel (kept_0 hG) z0
    go_simp;refine hK _ _ ⟨rfl,Kept.refl _,?_⟩;show _=_;simp only [gv1];rfl
   case r2o5=>
    intro w1 hG;intro v4 h4;change _=_ at h4;subst h4;refine t1o (by rfl) ?_;intro K hK;simp only [gv2]
    have hcc:=cel (kept_0 hG) o2
    go_simp;refine hK _ _ ⟨rfl,Kept.refl _,?_⟩;show _=_;simp only [gv1];rfl
   case r2o7=>
    intro w1 hG;intro v6 h6;change _=_ at h6;subst h6;refine t1o (by rfl) ?_;intro K hK;simp only [gv2]
    have hcc:=cel (kept_0 hG) o2
    go_simp;refine hK _ _ ⟨rfl,Kept.refl _,?_⟩;show _=_;simp only [gv1];rfl
   case r2o9=>
    intro w1 hG;intro v8 h8;change _=_ at h8;subst h8;refine t1o (by rfl) ?_;intro K hK;simp only [gv2]
    have hcc:=cel (kept_0 hG) o3
    go_simp;refine hK _ _ ⟨rfl,Kept.refl _,?_⟩;show _=_;simp only [gv1];rfl
   case r2o10=>
    intro w1 hG;intro va ha;change _=_ at ha;subst ha;intro vb hb;change _=_ at hb;subst hb;refine t1o (by rfl) ?_;intro K hK;simp only [gv2];go_simp;refine hK _ _ ⟨rfl,Kept.refl _,?_⟩;show _=_;simp only [gv1];rfl
   case r2o11=>
    intro w1 hG;intro v3 h3;change _=_ at h3;subst h3;intro v5 h5;change _=_ at h5;subst h5;intro v10 h10;change _=_ at h10;subst h10;refine t1o (by rfl) ?_;intro K hK;simp only [gv2];go_simp
    have hcall:=refun_out ra rn rc L k (k+n) w1 (HR1.out.below (kept_0 hG)) HCN.out HRG9.out HLO.out HHI.out
    rw [HLL.out] at hcall
    refine Calls.mono hcall ?_
    rintro e w2 ⟨vv,rfl,hox,hbx⟩
    refine hK _ _ ⟨rfl,hbx,?_⟩
    obtain ⟨a9,c9,rfl⟩:=hox.shape
    exact ⟨_,_,_,rfl,hox.mono (kept_0 hG).size⟩
   case r2o12=>
    intro w1 hG;intro v11 h11
    obtain ⟨a11,n11,c11,rfl,h11⟩:=h11
    refine t1o (by rfl) ?_;intro K hK;simp only [gv2];go_simp;refine hK _ _ ⟨rfl,Kept.refl _,?_⟩
    exact ⟨_,_,_,rfl,h11⟩
  intro w1 hG;intro v0 h0;change _=_ at h0;subst h0;intro v1 h1;change _=_ at h1;subst h1;intro v2 h2;change _=_ at h2;subst h2;intro v3 h3;change _=_ at h3;subst h3;intro v4 h4;change _=_ at h4;subst h4;intro v5 h5;change _=_ at h5;subst h5;intro v6 h6;change _=_ at h6;subst h6;intro v7 h7;change _=_ at h7;subst h7;intro v8 h8;change _=_ at h8;subst h8
  intro v9 h9;change _=_ at h9;subst h9;intro v10 h10;change _=_ at h10;subst h10;intro v11 h11
  obtain ⟨a11,n11,c11,rfl,h11⟩:=h11
  intro v12 h12
  obtain ⟨a12,n12,c12,rfl,h12⟩:=h12
  simp only [Given,gv2]
  have hb5:=kept_0 hG
  have HB5:=Lib.hid (Below.call HB1.out hb5)
  have HOW:=Lib.hid (h12.mono (show w.heap.size≤wB.heap.size from HWS.out))
  replace c7:=cel hb5 c7
  have hln:n12=LL.length:=by obtain ⟨x,y,e⟩:=h12.shape;injection e
  subst hln;clear hG h11 h12 hb5
  have HTV2:=HTV.out
  by_cases hg:RG < (LL.length:Int)
  ·have dg:decide (RG < (LL.length:Int))=true:=decide_eq_true hg
   obtain rfl:TV=6:=by rw [← HTV2];simp [hg]
   clear HTV2;clear hg;go_wp2_with fail
   go_ret2
   exact ⟨_,_,_,rfl,(fun h=>absurd h (by decide)),HB5.out⟩
  ·have dg:decide (RG < (LL.length:Int))=false:=decide_eq_false hg
   obtain rfl:TV=0:=by rw [← HTV2];simp [hg]
   clear HTV2;clear hg;go_wp2_with fail
   go_ret2
   exact ⟨_,_,_,rfl,(fun _=>HOW.out),HB5.out⟩
set_option maxHeartbeats 4000000 in
theorem rregs_4 (i:RmIn w No h st) (q:Int) (hq:st.has q=true) (pid k n pr:Int) (d:List Int) (a:Option Addr) (dn dc:Nat) (hk:(Lit.int .i64 k).wf=true) (hn:(Lit.int .i64 n).wf=true) :
  Calls Tryz.prog 30 #[.pointer (some ⟨h.m,0,none⟩),.pointer (some ⟨(h.pr q).b,0,none⟩),.agg #[.int .i64 4,.int .i64 pid,.int .i64 k,.int .i64 n,.int .i64 pr,.slice a dn dc]] w (GivesTurn (turnL (st.rs q) ⟨4,pid,k,n,pr,d⟩) (turnE st.c (st.rs q) ⟨4,pid,k,n,pr,d⟩) w):=by
 have hrow:=heap_alloc_new w (.cells #[.int .i64 4,.int .i64 pid,.int .i64 k,.int .i64 n,.int .i64 pr,.slice a dn dc] 39)
 have hba:=below_a w (.cells #[.int .i64 4,.int .i64 pid,.int .i64 k,.int .i64 n,.int .i64 pr,.slice a dn dc] 39)
 have i1:=i.below hba
 have hcn:=i.ok.cn q
 have hrg:=i.ok.cf.regions
 have hps:=i.ok.cf.pages
 have hSS:=Lib.hid (stretch_any i1 k n hk hn)
 have hk1:=wf_i64_bd hk
 have hn1:=wf_i64_bd hn
 obtain ⟨_,_,c7,_,_,_⟩:=i1.cells
 obtain ⟨ra,rn,rc,la,lc,z0,_,hsl,_⟩:=(i1.pr q hq).cell
 obtain ⟨o0,o1,o2,o3,o4,o5⟩:=cells6 hrow
 obtain ⟨BB,hBB⟩:∃ x,(h.pr q).b=x:=⟨_,rfl⟩
 rw [hBB] at z0 ⊢
 obtain ⟨L,hL⟩:∃ x,st.rs q=x:=⟨_,rfl⟩
 rw [hL] at hsl hcn ⊢
 have hT:turnE st.c L ⟨4,pid,k,n,pr,d⟩=if strB st.c k n=false then 1 else if proE L k (k+n) pr=0∧st.c.regions < (proL L k (k+n) pr).length then 6 else proE L k (k+n) pr:=by
  have e1:turnE0 L ⟨4,pid,k,n,pr,d⟩=proE L k (k+n) pr:=rfl
  have e2:turnL L ⟨4,pid,k,n,pr,d⟩=proL L k (k+n) pr:=rfl
  unfold turnE
  rw [e1,e2]
 have hLL:turnL L ⟨4,pid,k,n,pr,d⟩=proL L k (k+n) pr:=rfl
 have hS:strB st.c k n=decide (1≤n∧0≤k∧n≤st.c.pages∧k≤st.c.pages - n):=rfl
 rw [hT,hLL]
 obtain ⟨RG,hRG⟩:∃ x,st.c.regions=x:=⟨_,rfl⟩
 rw [hRG] at c7 hrg ⊢
 obtain ⟨SB,hSB⟩:∃ x,strB st.c k n=x:=⟨_,rfl⟩
 rw [hSB] at hSS hS ⊢
 have HR:Hid (RdS Rg.cells 3 (w.alloc (.cells #[.int .i64 4,.int .i64 pid,.int .i64 k,.int .i64 n,.int .i64 pr,.slice a dn dc] 39)) ra rn rc L):=hsl.1
 have HCN:Hid (Cn st.c.regions.toNat L):=hcn
 have HRG9:Hid (st.c.regions.toNat≤900):=by show _≤_;omega
 have HB0:=Lib.hid hba;have HROW:=Lib.hid hrow;clear hT hLL hsl hcn hBB hL hrow hba i i1 hSB
 cases SB with
 | false=>
  rw [if_pos rfl];clear hS hrg hps hRG
  go_enter Tryz.func30,Tryz.ntmps30
  go_wp2_with fail
  refine hSS.out.mono ?_
  rintro e w1 ⟨rfl,hb1⟩
  have HB1:=Lib.hid (Below.call HB0.out hb1)
  replace c7:=cel hb1 c7;replace z0:=cel hb1 z0;replace o0:=cel hb1 o0;replace o1:=cel hb1 o1;replace o2:=cel hb1 o2;replace o3:=cel hb1 o3;replace o4:=cel hb1 o4
  replace o5:=cel hb1 o5
  have HR1:=Lib.hid (HR.out.below hb1)
  clear hb1
  go_wp2
  go_ret2
  exact ⟨_,_,_,rfl,(fun h=>absurd h (by decide)),HB1.out⟩
 | true=>
  have hS2:1≤n∧0≤k∧n≤st.c.pages∧k≤st.c.pages - n:=of_decide_eq_true hS.symm
  rw [if_neg (by simp)]
  have hkn:k+n≤65536:=by omega
  have hk0:0≤k:=hS2.2.1
  have hn0:1≤n:=hS2.1
  have hlh:k < k+n:=by omega
  have hs:IntKind.i64.wrap (k+n)=k+n:=by rw [IntKind.wrap_i64];omega
  have HLO:=Lib.hid hk
  have HHI:Hid ((Lit.int .i64 (k+n)).wf=true):=WalkArith.wf_i64 ⟨by omega,by omega⟩
  clear hS hS2 hps hRG
  by_cases pa:pr < 0
  ·have da:decide (pr < 0)=true:=decide_eq_true pa
   have hE:proE L k (k+n) pr=1:=by unfold proE;rw [if_pos];cases e:rightB k (k+n) pr with | false=>rfl | true=>have:=rightB_iff e;omega
   rw [hE,if_neg (by simp)];clear hE
   go_enter Tryz.func30,Tryz.ntmps30
   go_wp2_with fail
   refine hSS.out.mono ?_
   rintro e w1 ⟨rfl,hb1⟩
   have HB1:=Lib.hid (Below.call HB0.out hb1)
   replace c7:=cel hb1 c7;replace z0:=cel hb1 z0;replace o0:=cel hb1 o0;replace o1:=cel hb1 o1;replace o2:=cel hb1 o2;replace o3:=cel hb1 o3;replace o4:=cel hb1 o4
   replace o5:=cel hb1 o5
   have HR1:=Lib.hid (HR.out.below hb1)
   clear hb1
   go_wp2
   go_ret2
   exact ⟨_,_,_,rfl,(fun h=>absurd h (by decide)),HB1.out⟩
  have da:decide (pr < 0)=false:=decide_eq_false pa
  by_cases pb:3 < pr
  ·have db:decide (3 < pr)=true:=decide_eq_true pb
   have hE:proE L k (k+n) pr=1:=by unfold proE;rw [if_pos];cases e:rightB k (k+n) pr with | false=>rfl | true=>have:=rightB_iff e;omega
   rw [hE,if_neg (by simp)];clear hE
   go_enter Tryz.func30,Tryz.ntmps30
   go_wp2_with fail
   refine hSS.out.mono ?_
   rintro e w1 ⟨rfl,hb1⟩
   have HB1:=Lib.hid (Below.call HB0.out hb1)
   replace c7:=cel hb1 c7;replace z0:=cel hb1 z0;replace o0:=cel hb1 o0;replace o1:=cel hb1 o1;replace o2:=cel hb1 o2;replace o3:=cel hb1 o3;replace o4:=cel hb1 o4
   replace o5:=cel hb1 o5
   have HR1:=Lib.hid (HR.out.below hb1)
   clear hb1
   go_wp2
   go_ret2
   exact ⟨_,_,_,rfl,(fun h=>absurd h (by decide)),HB1.out⟩
  have db:decide (3 < pr)=false:=decide_eq_false pb
  obtain ⟨LL,hLLx⟩:∃ x,proL L k (k+n) pr=x:=⟨_,rfl⟩
  rw [hLLx];have HLL:=Lib.hid hLLx;clear hLLx
  obtain ⟨E,hEx⟩:∃ x,proE L k (k+n) pr=x:=⟨_,rfl⟩
  rw [hEx];have HE:=Lib.hid hEx;clear hEx
  obtain ⟨TV,hTV⟩:∃ x,(if E=0∧RG < (LL.length:Int) then 6 else E)=x:=⟨_,rfl⟩
  rw [hTV];have HTV:=Lib.hid hTV;clear hTV
  go_enter Tryz.func30,Tryz.ntmps30
  go_wp2_with fail
  refine hSS.out.mono ?_
  rintro e w1 ⟨rfl,hb1⟩
  have HB1:=Lib.hid (Below.call HB0.out hb1)
  replace c7:=cel hb1 c7;replace z0:=cel hb1 z0;replace o0:=cel hb1 o0;replace o1:=cel hb1 o1;replace o2:=cel hb1 o2;replace o3:=cel hb1 o3;replace o4:=cel hb1 o4
  replace o5:=cel hb1 o5
  have HR1:=Lib.hid (HR.out.below hb1)
  clear hb1
  have hw1s:=HB1.out.size
  have HWS:=Lib.hid hw1s;clear hw1s;go_wp2_with fail
  obtain ⟨wB,hwB⟩:∃ x:World,x=w1:=⟨_,rfl⟩
  subst hwB
  refine' reg_free (G:=Kept) (pickF [eqV _,eqV _,eqV _,eqV _,eqV _,eqV _,eqV _,eqV _,eqV _,eqV _,eqV _,eqV _,(fun v w5=>∃ a n c,v = .tuple #[.slice a n c,.int .i64 E]∧OwnsS Rg.cells 3 110 w5 wB.heap.size (.slice a n c) LL),(fun v w5=>∃ a n c,v = .tuple #[.slice a n c,.int .i64 E]∧OwnsS Rg.cells 3 110 w5 wB.heap.size (.slice a n c) LL),(fun v w5=>∃ a n c,v = .slice a n c∧OwnsS Rg.cells 3 110 w5 wB.heap.size (.slice a n c) LL),eqV _,(fun v w5=>∃ a n c,v = .slice a n c∧OwnsS Rg.cells 3 110 w5 wB.heap.size (.slice a n c) LL),eqV _]) [68,69,70,71,72,73,74,75,76,77,78,79,80,67,81,82,9,10] [[],[0],[1],[2],[],[4],[],[6],[],[8],[7,9],[],[3,5,10,11],[12],[13],[13],[14],[15]] [0,1,2,3,4,5,6,7,8,9,10,11,12,13,14,15,16,17] (by kernel_rfl) Kept.refl Kept.trans (pick_stays ⟨eS _,eS _,eS _,eS _,eS _,eS _,eS _,eS _,eS _,eS _,eS _,eS _,(fun _ _ _ p b=>by obtain ⟨a,n,c,e,h1⟩:=p;exact ⟨a,n,c,e,h1.below b⟩),(fun _ _ _ p b=>by obtain ⟨a,n,c,e,h1⟩:=p;exact ⟨a,n,c,e,h1.below b⟩),(fun _ _ _ p b=>by obtain ⟨a,n,c,e,h1⟩:=p;exact ⟨a,n,c,e,h1.below b⟩),eS _,(fun _ _ _ p b=>by obtain ⟨a,n,c,e,h1⟩:=p;exact ⟨a,n,c,e,h1.below b⟩),eS _,trivial⟩) 97 rfl (by kernel_rfl) (by kernel_rfl) rfl rfl ?r3obl ?r3fin
  case r3obl=>
   refine ⟨?r3o0,?r3o1,?r3o2,?r3o3,?r3o4,?r3o5,?r3o6,?r3o7,?r3o8,?r3o9,?r3o10,?r3o11,?r3o12,?r3o13,?r3o14,?r3o15,?r3o16,?r3o17,trivial⟩
   case r3o0 | r3o4 | r3o6 | r3o8 | r3o11=>
    intro w1 hG;refine t1o (by rfl) ?_;intro K hK;go_simp;refine hK _ _ ⟨rfl,Kept.refl _,?_⟩;show _=_;simp only [gv1];rfl
   case r3o1 | r3o2=>
    intro w1 hG;intro va ha;change _=_ at ha;subst ha;refine t1o (by rfl) ?_;intro K hK;simp only [gv2];go_simp;refine hK _ _ ⟨rfl,Kept.refl _,?_⟩;show _=_;simp only [gv1];rfl
   case r3o3=>
    intro w1 hG;intro v2 h2;change _=_ at h2;subst h2;refine t1o (by rfl) ?_;intro K hK;simp only [gv2]
    have hcc:=cel (kept_0 hG) z0
    go_simp;refine hK _ _ ⟨rfl,Kept.refl _,?_⟩;show _=_;simp only [gv1];rfl
   case r3o5=>
    intro w1 hG;intro v4 h4;change _=_ at h4;subst h4;refine t1o (by rfl) ?_;intro K hK;simp only [gv2]
    have hcc:=cel (kept_0 hG) o2
    go_simp;refine hK _ _ ⟨rfl,Kept.refl _,?_⟩;show _=_;simp only [gv1];rfl
   case r3o7=>
    intro w1 hG;intro v6 h6;change _=_ at h6;subst h6;refine t1o (by rfl) ?_;intro K hK;simp only [gv2]
    have hcc:=cel (kept_0 hG) o2
    go_simp;refine hK _ _ ⟨rfl,Kept.refl _,?_⟩;show _=_;simp only [gv1];rfl
   case r3o9=>
    intro w1 hG;intro v8 h8;change _=_ at h8;subst h8;refine t1o (by rfl) ?_;intro K hK;simp only [gv2]
    have hcc:=cel (kept_0 hG) o3
    go_simp;refine hK _ _ ⟨rfl,Kept.refl _,?_⟩;show _=_;simp only [gv1];rfl
   case r3o10=>
    intro w1 hG;intro va ha;change _=_ at ha;subst ha;intro vb hb;change _=_ at hb;subst hb;refine t1o (by rfl) ?_;intro K hK;simp only [gv2];go_simp;refine hK _ _ ⟨rfl,Kept.refl _,?_⟩;show _=_;simp only [gv1];rfl
   case r3o12=>
    intro w1 hG;intro v3 h3;change _=_ at h3;subst h3;intro v5 h5;change _=_ at h5;subst h5;intro v10 h10;change _=_ at h10;subst h10;intro v11 h11;change _=_ at h11;subst h11;refine t1o (by rfl) ?_;intro K hK;simp only [gv2];go_simp
    have hcall:=refpro_out ra rn rc L k (k+n) pr w1 (HR1.out.below (kept_0 hG)) HCN.out HRG9.out HLO.out HHI.out
    rw [HLL.out,HE.out] at hcall
    refine Calls.mono hcall ?_
    rintro e w2 ⟨vv,rfl,hox,hbx⟩
    obtain ⟨a9,c9,rfl⟩:=hox.shape
    refine hK _ _ ⟨rfl,hbx,?_⟩
    exact ⟨_,_,_,rfl,hox.mono (kept_0 hG).size⟩
   case r3o13=>
    intro w1 hG;intro v12 h12
    obtain ⟨a12,n12,c12,rfl,h12⟩:=h12
    refine t1o (by rfl) ?_;intro K hK;simp only [gv2];go_simp;refine hK _ _ ⟨rfl,Kept.refl _,?_⟩
    exact ⟨_,_,_,rfl,h12⟩
   case r3o14=>
    intro w1 hG;intro v13 h13
    obtain ⟨a13,n13,c13,rfl,h13⟩:=h13
    refine t1o (by rfl) ?_;intro K hK;simp only [gv2];go_simp;refine hK _ _ ⟨rfl,Kept.refl _,?_⟩
    exact ⟨_,_,_,rfl,h13⟩
   case r3o15=>
    intro w1 hG;intro v13 h13
    obtain ⟨a13,n13,c13,rfl,h13⟩:=h13
    refine t1o (by rfl) ?_;intro K hK;simp only [gv2];go_simp;refine hK _ _ ⟨rfl,Kept.refl _,?_⟩;show _=_;simp only [gv1];rfl
   case r3o16=>
    intro w1 hG;intro v14 h14
    obtain ⟨a14,n14,c14,rfl,h14⟩:=h14
    refine t1o (by rfl) ?_;intro K hK;simp only [gv2];go_simp;refine hK _ _ ⟨rfl,Kept.refl _,?_⟩
    exact ⟨_,_,_,rfl,h14⟩
   case r3o17=>
    intro w1 hG;intro va ha;change _=_ at ha;subst ha;refine t1o (by rfl) ?_;intro K hK;simp only [gv2];go_simp;refine hK _ _ ⟨rfl,Kept.refl _,?_⟩;show _=_;simp only [gv1];rfl
  intro w1 hG;intro v0 h0;change _=_ at h0;subst h0;intro v1 h1;change _=_ at h1;subst h1;intro v2 h2;change _=_ at h2;subst h2;intro v3 h3;change _=_ at h3;subst h3;intro v4 h4;change _=_ at h4;subst h4;intro v5 h5;change _=_ at h5;subst h5;intro v6 h6;change _=_ at h6;subst h6;intro v7 h7;change _=_ at h7;subst h7;intro v8 h8;change _=_ at h8;subst h8
  intro v9 h9;change _=_ at h9;subst h9;intro v10 h10;change _=_ at h10;subst h10;intro v11 h11;change _=_ at h11;subst h11;intro v12 h12
  obtain ⟨a12,n12,c12,rfl,h12⟩:=h12
  intro v13 h13
  obtain ⟨a13,n13,c13,rfl,h13⟩:=h13
  intro v14 h14
  obtain ⟨a14,n14,c14,rfl,h14⟩:=h14
  intro v15 h15;change _=_ at h15;subst h15;intro v16 h16
  obtain ⟨a16,n16,c16,rfl,h16⟩:=h16
  intro v17 h17;change _=_ at h17;subst h17
  simp only [Given,gv2]
  have hb5:=kept_0 hG
  have HB5:=Lib.hid (Below.call HB1.out hb5)
  have HOW:=Lib.hid (h16.mono (show w.heap.size≤wB.heap.size from HWS.out))
  replace c7:=cel hb5 c7
  have hln:n16=LL.length:=by obtain ⟨x,y,e⟩:=h16.shape;injection e
  subst hln;clear hG h12 h13 h14 h16 hb5
  have HTV2:=HTV.out
  by_cases e0:E=0
  ·subst e0
   by_cases hg:RG < (LL.length:Int)
   ·have dg:decide (RG < (LL.length:Int))=true:=decide_eq_true hg
    obtain rfl:TV=6:=by rw [← HTV2];simp [hg]
    clear HTV2;clear hg;go_wp2_with fail
    go_ret2
    exact ⟨_,_,_,rfl,(fun h=>absurd h (by decide)),HB5.out⟩
   ·have dg:decide (RG < (LL.length:Int))=false:=decide_eq_false hg
    obtain rfl:TV=0:=by rw [← HTV2];simp [hg]
    clear HTV2;clear hg;go_wp2_with fail
    go_ret2
    exact ⟨_,_,_,rfl,(fun _=>HOW.out),HB5.out⟩
  ·have b0:(E == 0)=false:=by simpa using e0
   obtain rfl:TV=E:=by rw [← HTV2];simp [e0]
   clear HTV2;have HE0:=Lib.hid e0;clear e0;go_wp2_with fail
   go_ret2
   exact ⟨_,_,_,rfl,(fun h=>absurd h HE0.out),HB5.out⟩
end
end Go.Proofs.YtoepnbfifjgpfaaGreat
