/- Both machines tell the same (Looks). -/
import Derived.Test.YtoepnbfifjgpfaaGreatMu0
import Derived.Test.YtoepnbfifjgpfaaGreatMp11
import Derived.Test.YtoepnbfifjgpfaaGreatMu21
import Derived.Test.YtoepnbfifjgpfaaGreatMu24
import Derived.WalkKit
import Derived.ProofKit
import Derived.BigQuiet
import Derived.Deep.QuietTactic
import Derived.Lib.Hide
import Derived.RegionTactic
namespace Go.Proofs.YtoepnbfifjgpfaaGreat
open Go.RowKit
set_option linter.unusedSimpArgs false
theorem findB_snoc (L:List Rg) (r:Rg) (x:Int):findB (L ++ [r]) x=(findB L x || r.has x):=by
 unfold findB
 rw [List.find?_append]
 cases h:List.find? (fun r=>r.has x) L with
 | some y=>simp
 | none=>
  rw [List.find?_singleton]
  cases hr:r.has x <;> simp
theorem owns_sl {k:IntKind} {e:TypeId} {w:World} {base:Nat} {v:Value} {l:List Int} (h:Owns k e w base v l):∃ a c,v = .slice a l.length c∧RdAt k w a l.length c l:=by
 obtain ⟨a,c,rfl⟩:=h.shape
 exact ⟨a,c,rfl,h.rd⟩
theorem ownsS_sl {w:World} {base:Nat} {v:Value} {l:List Rg} (h:OwnsS Rg.cells 3 110 w base v l):∃ a c,v = .slice a l.length c∧RdS Rg.cells 3 w a l.length c l:=by
 obtain ⟨a,c,rfl⟩:=h.shape
 exact ⟨a,c,rfl,h.rd rgC⟩
section
variable {No No2:Nat→Prop} {h:McH} {hr:RmH} {st:Mc} {w:World}
set_option maxHeartbeats 4000000 in
set_option maxRecDepth 100000 in
theorem looks_yes (i:McIn w No h st) (r:RmIn w No2 hr st) (pid n:Int) (hp:(Lit.int .i64 pid).wf=true) (hn:(Lit.int .i64 n).wf=true) :
  Calls Tryz.prog 42 #[.pointer (some ⟨h.m,0,none⟩),.pointer (some ⟨hr.m,0,none⟩),.int .i64 pid,.int .i64 n] w fun e w'=>e = .returned (.bool true)∧Below w.heap.size w w':=by
 have HI:=Lib.hid i;have HR:=Lib.hid r;have HP:=Lib.hid hp;have HN:=Lib.hid hn
 obtain ⟨zc,zs,hset⟩:=r.set
 have HSET:=Lib.hid hset;have C9:=Lib.hid r.cells.2.2.2.2.1;clear i r hp hn hset
 go_enter Tryz.func42,Tryz.ntmps42
 go_wp2_with fail
 refine' reg_free (G:=Kept) (pickF [eqV _,eqV _,eqV _,eqV _,eqV (.bool false),eqV _,eqV _,(fun v w5=>∃ a c,v=Value.slice a (pidsK st.v st.pr).length c∧RdAt .i64 w5 a (pidsK st.v st.pr).length c (pidsK st.v st.pr)),eqV _,eqV _,eqV _,eqV _,(fun v w5=>∃ a c,v=Value.slice a (pidsK st.v st.pr).length c∧RdAt .i64 w5 a (pidsK st.v st.pr).length c (pidsK st.v st.pr)),eqV (.bool true),eqV _,eqV _]) [16,17,18,19,20,21,22,23,24,25,26,27,28,29,30,31] [[],[0],[],[2],[1,3],[4],[5],[5,6],[5],[5,8],[5,9],[5,10],[5,11],[5,7,12],[5,13],[5,14]] [0,1,2,3,4,5,6,7,8,9,10,11,12,13,14,15] (by kernel_rfl) Kept.refl Kept.trans (pick_stays ⟨eS _,eS _,eS _,eS _,eS _,eS _,eS _,(fun _ _ _ p b=>by obtain ⟨a,c,e,h1⟩:=p;exact ⟨a,c,e,h1.below b⟩),eS _,eS _,eS _,eS _,(fun _ _ _ p b=>by obtain ⟨a,c,e,h1⟩:=p;exact ⟨a,c,e,h1.below b⟩),eS _,eS _,eS _,trivial⟩) 168 rfl (by kernel_rfl) (by kernel_rfl) rfl rfl ?r1obl ?r1fin
 case r1obl=>
  refine ⟨?r1o0,?r1o1,?r1o2,?r1o3,?r1o4,?r1o5,?r1o6,?r1o7,?r1o8,?r1o9,?r1o10,?r1o11,?r1o12,?r1o13,?r1o14,?r1o15,trivial⟩
  case r1o0 | r1o2=>
   intro w1 hG;refine t1o (by rfl) ?_;intro K hK;go_simp;refine hK _ _ ⟨rfl,Kept.refl _,?_⟩;show _=_;simp only [gv1];rfl
  case r1o1=>
   intro w1 hG;intro v0 h0;change _=_ at h0;subst h0;refine t1o (by rfl) ?_;intro K hK;simp only [gv2]
   have hbk:=kept_0 hG
   go_simp
   refine Calls.mono (weight_any (HI.out.below hbk)) ?_
   rintro e w2 ⟨rfl,hb2⟩
   refine hK _ _ ⟨rfl,hb2,?_⟩
   show _=_;simp only [gv1];rfl
  case r1o3=>
   intro w1 hG;intro v2 h2;change _=_ at h2;subst h2;refine t1o (by rfl) ?_;intro K hK;simp only [gv2]
   have hbk:=kept_0 hG
   go_simp
   refine Calls.mono (rweight_any (HR.out.below hbk)) ?_
   rintro e w2 ⟨rfl,hb2⟩
   refine hK _ _ ⟨rfl,hb2,?_⟩
   show _=_;simp only [gv1];rfl
  case r1o4=>
   intro w1 hG;intro va ha;change _=_ at ha;subst ha;intro vb hb;change _=_ at hb;subst hb;refine t1o (by rfl) ?_;intro K hK;simp only [gv2];go_simp;refine hK _ _ ⟨rfl,Kept.refl _,?_⟩;show _=_;simp only [gv1]
  case r1o5 | r1o6=>
   intro w1 hG;intro va ha;change _=_ at ha;subst ha;refine t1o (by rfl) ?_;intro K hK;simp only [gv2];go_simp;refine hK _ _ ⟨rfl,Kept.refl _,?_⟩;show _=_;simp only [gv1];rfl
  case r1o7=>
   intro w1 hG;intro v5 h5;change _=_ at h5;subst h5;intro v6 h6;change _=_ at h6;subst h6;refine t1o (by rfl) ?_;intro K hK;simp only [gv2]
   have hbk:=kept_0 hG
   go_simp
   refine Calls.mono (pids_any (HI.out.below hbk)) ?_
   rintro e w2 ⟨v,rfl,ho,hb2⟩
   refine hK _ _ ⟨rfl,hb2,?_⟩
   exact owns_sl ho
  case r1o8=>
   intro w1 hG;intro va ha;change _=_ at ha;subst ha;refine t1o (by rfl) ?_;intro K hK;simp only [gv2];go_simp;refine hK _ _ ⟨rfl,Kept.refl _,?_⟩;show _=_;simp only [gv1];rfl
  case r1o9 | r1o10=>
   intro w1 hG;intro va ha;change _=_ at ha;subst ha;intro vb hb;change _=_ at hb;subst hb;refine t1o (by rfl) ?_;intro K hK;simp only [gv2];go_simp;refine hK _ _ ⟨rfl,Kept.refl _,?_⟩;show _=_;simp only [gv1];rfl
  case r1o11=>
   intro w1 hG;intro v5 h5;change _=_ at h5;subst h5;intro v10 h10;change _=_ at h10;subst h10;refine t1o (by rfl) ?_;intro K hK;simp only [gv2]
   have hc:=cel (kept_0 hG) C9.out
   go_simp;refine hK _ _ ⟨rfl,Kept.refl _,?_⟩;show _=_;simp only [gv1];rfl
  case r1o12=>
   intro w1 hG;intro v5 h5;change _=_ at h5;subst h5;intro v11 h11;change _=_ at h11;subst h11;refine t1o (by rfl) ?_;intro K hK;simp only [gv2]
   have hbk:=kept_0 hG
   go_simp
   refine Calls.mono (crlist_any hr.s hr.sl st.pr st.v w1 (HSET.out.below hbk) HI.out.ok.prL.2) ?_
   rintro e w2 ⟨v,rfl,ho,hb2⟩
   refine hK _ _ ⟨rfl,hb2,?_⟩
   exact owns_sl ho
  case r1o13=>
   intro w1 hG;intro v5 h5;change _=_ at h5;subst h5;intro v7 h7
   obtain ⟨a7,c7,rfl,h7⟩:=h7
   intro v12 h12
   obtain ⟨a12,c12,rfl,h12⟩:=h12
   refine t1o (by rfl) ?_;intro K hK;simp only [gv2];go_simp
   refine Calls.mono (ints_yes a7 _ c7 a12 _ c12 (pidsK st.v st.pr) w1 h7 h12) ?_
   rintro e w2 ⟨rfl,hb2⟩
   refine hK _ _ ⟨rfl,hb2,?_⟩
   show _=_;simp only [gv1]
  case r1o14 | r1o15=>
   intro w1 hG;intro va ha;change _=_ at ha;subst ha;intro vb hb;change _=_ at hb;subst hb;refine t1o (by rfl) ?_;intro K hK;simp only [gv2];go_simp;refine hK _ _ ⟨rfl,Kept.refl _,?_⟩;show _=_;simp only [gv1];rfl
 intro w1 hG;intro v0 h0;change _=_ at h0;subst h0;intro v1 h1;change _=_ at h1;subst h1;intro v2 h2;change _=_ at h2;subst h2;intro v3 h3;change _=_ at h3;subst h3;intro v4 h4;change _=_ at h4;subst h4;intro v5 h5;change _=_ at h5;subst h5;intro v6 h6;change _=_ at h6;subst h6;intro v7 h7
 obtain ⟨a7,c7,rfl,h7⟩:=h7
 intro v8 h8;change _=_ at h8;subst h8;intro v9 h9;change _=_ at h9;subst h9;intro v10 h10;change _=_ at h10;subst h10;intro v11 h11;change _=_ at h11;subst h11;intro v12 h12
 obtain ⟨a12,c12,rfl,h12⟩:=h12
 intro v13 h13;change _=_ at h13;subst h13;intro v14 h14;change _=_ at h14;subst h14;intro v15 h15;change _=_ at h15;subst h15
 simp only [Given,gv2]
 have hbk:=kept_0 hG
 have HB1:=Lib.hid hbk
 have HI1:=Lib.hid (HI.out.below hbk)
 have HR1:=Lib.hid (HR.out.below hbk)
 have c9:=cel hbk C9.out
 clear hG hbk h7 h12
 cases hh:st.has pid with
 | false=>
  obtain ⟨e1,e2⟩:=HI.out.ok.gone pid hh
  have hpo:=pageof_no HI1.out pid n HP.out (by rw [e1];rfl)
  have HPO:=Lib.hid hpo;have HE1:=Lib.hid e1;have HE2:=Lib.hid e2;clear hpo e1 e2;go_wp2_with fail
  refine HPO.out.mono ?_
  rintro e w2 ⟨rfl,hb2⟩
  have HB2:=Lib.hid (Below.call HB1.out hb2)
  have HI2:=Lib.hid (HI1.out.below hb2)
  obtain ⟨zc,zs,hset2⟩:=(HR1.out.below hb2).set
  have hcall:=crhas_any hr.s hr.sl st.pr st.v pid w2 hset2
  rw [show hasB st.pr st.v pid=false from by rw [HI.out.ok.prI];exact hh] at hcall
  replace c9:=cel hb2 c9;have HC:=Lib.hid hcall;clear hb2 hset2 hcall HPO;go_wp2_with fail
  refine HC.out.mono ?_
  rintro e w3 ⟨rfl,rfl⟩
  have hrg:=regions_any HI2.out pid HP.out
  rw [HE1.out] at hrg;have HRG:=Lib.hid hrg;clear hrg HC;go_wp2_with fail
  refine HRG.out.mono ?_
  rintro e w4 ⟨v,rfl,ho,hb4⟩
  obtain ⟨a4,c4,rfl⟩:=ho.shapeN 0 rfl
  have HB4:=Lib.hid (Below.call HB2.out hb4)
  have hsd:=stored_any (HI2.out.below hb4) pid
  rw [HE2.out] at hsd;have HSD:=Lib.hid hsd;clear ho hb4 hsd HRG;go_wp2_with fail
  refine HSD.out.mono ?_
  rintro e w5 ⟨v,rfl,ho,hb5⟩
  obtain ⟨a5,c5,rfl⟩:=ho.shapeN 0 rfl
  have HB5:=Lib.hid (Below.call HB4.out hb5)
  clear ho hb5 HSD;go_wp2_with fail
  go_ret
  exact ⟨rfl,HB5.out⟩
 | true=>
  obtain ⟨q,hq,hql,cp⟩:=HR1.out.ptr hh
  subst hq;have HH:=Lib.hid hh
  have hq64:(q:Int) < (st.pr:Int):=by omega
  have hprl:(st.pr:Int)≤64:=by have:=HI.out.ok.prL;omega
  obtain ⟨IS,hIS⟩:∃ b,findB (st.rs (q:Int)) n=b:=⟨_,rfl⟩
  have hpg:Calls Tryz.prog 45 #[.pointer (some ⟨h.m,0,none⟩),.int .i64 (q:Int),.int .i64 n] w1 fun e w'=>∃ pa pn pc,e = .returned (.tuple #[.slice pa pn pc,.bool IS])∧(IS=true→RdAt .u8 w' pa pn pc (pgB st.c.page (st.ms (q:Int)) n))∧(IS=false→pn=0)∧Below w1.heap.size w1 w':=by
   cases hb:IS with
   | true=>
    refine (pageof_yes HI1.out (q:Int) n HP.out HN.out (by rw [hIS];exact hb)).mono ?_
    rintro e w' ⟨v,rfl,ho,hb⟩
    obtain ⟨a,c,rfl⟩:=ho.shape
    exact ⟨a,_,c,rfl,fun _=>ho.rd,fun e=>(by cases e),hb⟩
   | false=>
    refine (pageof_no HI1.out (q:Int) n HP.out (by rw [hIS];exact hb)).mono ?_
    rintro e w' ⟨rfl,hb⟩
    exact ⟨none,0,0,rfl,fun e=>(by cases e),fun _=>rfl,hb⟩
  have HPG:=Lib.hid hpg;have HIS:=Lib.hid hIS;clear hh hIS hpg;go_wp2_with fail
  refine HPG.out.mono ?_
  rintro e w2 ⟨pa,pn,pc,rfl,hy,hz,hb2⟩
  have HB2:=Lib.hid (Below.call HB1.out hb2)
  have HI2:=Lib.hid (HI1.out.below hb2)
  have HR2:=Lib.hid (HR1.out.below hb2)
  have HY:=Lib.hid hy;have HZ:=Lib.hid hz
  obtain ⟨zc,zs,hset2⟩:=HR2.out.set
  have hcall:=crhas_any hr.s hr.sl st.pr st.v (q:Int) w2 hset2
  rw [show hasB st.pr st.v (q:Int)=true from by rw [HI.out.ok.prI];exact HH.out] at hcall
  replace c9:=cel hb2 c9;replace cp:=cel hb2 cp;have HC:=Lib.hid hcall
  obtain ⟨_,_,_,_,_,c10⟩:=HR2.out.cells
  have hpr:=HR2.out.pr (q:Int) HH.out
  obtain ⟨ra,rn,rc,la,lc,z0,z1,h2,h3⟩:=hpr.cell
  have HRR:=Lib.hid h2.1
  have hrn:=h2.1.len
  have hrb:rn≤32:=by have h1:=(HI.out.ok.cn (q:Int)).few;have h2:=HI.out.ok.cf.regions;omega
  have hln:=HI.out.ok.few (q:Int)
  obtain ⟨NL,hNL⟩:∃ y,(st.ms (q:Int)).length=y:=⟨_,rfl⟩
  rw [hNL] at z1 hln h3;have HL3:=Lib.hid h3;have HNL:=Lib.hid hNL;have HRN:=Lib.hid hrn;have HZ0:=Lib.hid z0;have HZ1:=Lib.hid z1;clear hb2 hset2 hcall HPG h2 h3 hpr hrn hNL hy hz;go_wp2_with fail
  refine HC.out.mono ?_
  rintro e w2' ⟨rfl,rfl⟩
  go_wp2_with fail
  go_loopw [12,13] (fun v i wr=>∃ k:Nat,k≤NL∧i = .int .i64 k∧Hid (Owns .i64 3 wr w2.heap.size v (((st.ms (q:Int)).take k).map Prod.fst)∧Below w2.heap.size w2 wr)) (fun _ i _=>NL - (intOf i).toNat)
  case atStart=>exact ⟨0,by omega,rfl,Owns.nil _ _ _ _,Below.refl _ _⟩
  case round=>
   obtain ⟨k,hk,rfl,hh⟩:=hrel
   obtain ⟨ow,hbr⟩:=hh.out
   have hlk:(((st.ms (q:Int)).take k).map Prod.fst).length=k:=by rw [List.length_map,List.length_take,HNL.out];omega
   obtain ⟨va,vc,rfl⟩:=ow.shapeN k hlk
   have OW:=Lib.hid ow;have BR:=Lib.hid hbr
   have z1r:=cel hbr HZ1.out
   clear hh ow hbr z0 z1 c9 cp c10
   by_cases hkN:k < NL
   ·obtain ⟨x,hx⟩:∃ x,(st.ms (q:Int))[k]?=some x:=⟨_,List.getElem?_eq_getElem (by rw [HNL.out];exact hkN)⟩
    have hin:=find_in (HI.out.ok.pg (q:Int) x (List.mem_of_getElem? hx)).2 (HI.out.ok.wi (q:Int))
    have hpgs:=HI.out.ok.cf.pages
    obtain ⟨N,B⟩:=x
    have HTK:=Lib.hid (take_snoc hx)
    obtain ⟨bb,oo,hla,q0,_⟩:=pge_at HL3.out hx
    subst hla
    replace q0:w2.cell? ⟨bb,oo+k * 2,none⟩=some (.int .i64 N):=q0
    replace hin:0≤N∧N < st.c.pages:=hin
    have hcap:=HL3.out.1.cap
    have HWN:Hid ((Lit.int .i64 N).wf=true):=WalkArith.wf_i64 ⟨by omega,by omega⟩
    have HTE:Hid (((st.ms (q:Int)).take (k+1)).map Prod.fst=((st.ms (q:Int)).take k).map Prod.fst ++ [N]):=by show _=_;rw [HTK.out,List.map_append];rfl
    replace q0:=cel BR.out q0;clear hx hin hpgs
    go_wp2_with (at_builtin;refine app_one i64T i64I (by decide) rfl (.tmp 83) (.tmp 92) rfl _ w2.heap.size (.slice va k vc) _ rfl OW.out N rfl HWN.out (by rw [hlk];omega) BR.out.size ?_;intro v1 w6 ho1 hg1)
    have hb6:=BR.out.trans (hg1.below BR.out.size (fun y e=>(OW.out.at_base y e).1))
    go_roundw
    case rel=>exact ⟨k+1,by omega,by go_num,by rw [HTE.out];exact ho1,hb6⟩
    case measure=>simp [intOf] <;> omega
   ·obtain rfl:k=NL:=by omega
    obtain ⟨wL,hwL⟩:∃ wL:World,wL=wr:=⟨_,rfl⟩
    subst hwL
    have htk:(st.ms (q:Int)).take k=st.ms (q:Int):=List.take_of_length_le (by rw [HNL.out];omega)
    rw [htk] at OW hlk
    have HST:Hid (RdAt .i64 wL va k vc ((st.ms (q:Int)).map Prod.fst)):=OW.out.rd
    have HLK:=Lib.hid hlk
    have z0r:=cel BR.out HZ0.out
    have HZ0R:=Lib.hid z0r;clear htk hlk;go_wp2_with fail
    go_loopw [14,15] (fun b i wr=>∃ j:Nat,j≤rn∧i = .int .i64 j∧b = .bool (findB ((st.rs (q:Int)).take j) n)∧Hid (Below wL.heap.size wL wr)) (fun _ i _=>rn - (intOf i).toNat)
    case atStart=>exact ⟨0,by omega,rfl,rfl,Below.refl _ _⟩
    case round=>
     obtain ⟨j,hj,rfl,rfl,B2⟩:=hrel
     have z0s:=cel B2.out HZ0R.out
     obtain ⟨M,hM⟩:∃ b,findB ((st.rs (q:Int)).take j) n=b:=⟨_,rfl⟩
     rw [hM];have HM:=Lib.hid hM;clear z0r z1r hM
     by_cases hjr:j < rn
     ·obtain ⟨r,hrr⟩:∃ r,(st.rs (q:Int))[j]?=some r:=⟨_,List.getElem?_eq_getElem (by rw [HRN.out];exact hjr)⟩
      obtain ⟨g,o,ha,c0,c1,_⟩:=((HRR.out.below BR.out).below B2.out).three j r hrr
      subst ha
      have hts:=take_snoc hrr
      obtain ⟨lo,hi,pp⟩:=r
      replace c0:wr.cell? ⟨g,o+j * 3,none⟩=some (.int .i64 lo):=c0
      replace c1:wr.cell? ⟨g,o+j * 3+1,none⟩=some (.int .i64 hi):=c1
      have HFN:Hid (findB ((st.rs (q:Int)).take (j+1)) n=(M || (decide (lo≤n) && decide (n < hi)))):=by
       show _=_;rw [hts,findB_snoc,HM.out];rfl
      have hcap:=HRR.out.cap
      clear hrr hts
      cases M with
      | true=>
       go_wp2
       go_roundw
       case rel=>exact ⟨j+1,by omega,by go_num,by rw [HFN.out];rfl,B2.out⟩
       case measure=>simp [intOf] <;> omega
      | false=>
       by_cases e1:lo≤n
       ·have d1:decide (lo≤n)=true:=decide_eq_true e1
        by_cases e2:n < hi
        ·have d2:decide (n < hi)=true:=decide_eq_true e2
         go_wp2
         go_roundw
         case rel=>exact ⟨j+1,by omega,by go_num,by rw [HFN.out,d1,d2];rfl,B2.out⟩
         case measure=>simp [intOf] <;> omega
        ·have d2:decide (n < hi)=false:=decide_eq_false e2
         go_wp2
         go_roundw
         case rel=>exact ⟨j+1,by omega,by go_num,by rw [HFN.out,d1,d2];rfl,B2.out⟩
         case measure=>simp [intOf] <;> omega
       ·have d1:decide (lo≤n)=false:=decide_eq_false e1
        go_wp2
        go_roundw
        case rel=>exact ⟨j+1,by omega,by go_num,by rw [HFN.out,d1];rfl,B2.out⟩
        case measure=>simp [intOf] <;> omega
     ·obtain rfl:j=rn:=by omega
      have hMI:M=IS:=by
       have h1:=HM.out
       rw [List.take_of_length_le (by rw [HRN.out];omega),HIS.out] at h1
       exact h1.symm
      subst hMI
      have HB3:=Lib.hid ((HB2.out.trans (BR.out.mono HB2.out.size)).trans (B2.out.mono (Nat.le_trans HB2.out.size BR.out.size)))
      have hbw:Below w2.heap.size w2 wr:=BR.out.trans (B2.out.mono BR.out.size)
      have HBW:=Lib.hid hbw
      have HI3:=Lib.hid (HI2.out.below hbw)
      have HR3:=Lib.hid (HR2.out.below hbw)
      have HST3:=Lib.hid (HST.out.below B2.out)
      have HRR3:=Lib.hid (HRR.out.below hbw)
      have HZ0S:=Lib.hid z0s;clear hbw
      obtain ⟨wZ,hwZ⟩:∃ wZ:World,wZ=wr:=⟨_,rfl⟩
      subst hwZ;go_wp2_with fail
      cases M with
      | true=>
       refine' reg_free (G:=Kept) (pickF [eqV _,eqV _,eqV _,eqV _,eqV _,eqV _,eqV _,eqV (.string (strOfNums (pgB st.c.page (st.ms (q:Int)) n))),eqV _,eqV _,eqV _,(fun v w5=>∃ a m c,v=Value.slice a m c∧RdAt .u8 w5 a m c (pgB st.c.page (st.ms (q:Int)) n)),eqV (.string (strOfNums (pgB st.c.page (st.ms (q:Int)) n))),eqV (.bool false),eqV _,eqV _,eqV _,eqV _,eqV _,eqV _,eqV _,eqV _,eqV _,eqV _,eqV _]) [128,129,130,131,132,133,134,135,136,137,138,139,140,141,142,143,144,145,146,147,148,149,150,151,152] [[],[],[0,1],[2],[3],[3,4],[5],[5,6],[5],[5],[5],[5,8,9,10],[5,11],[5,7,12],[3,5,13],[3,14],[15],[16],[16,17],[16,18],[19],[19,20],[19,21],[16,19,22],[16,23]] [0,1,2,3,4,5,6,7,8,9,10,11,12,13,14,15,16,17,18,19,20,21,22,23,24] (by kernel_rfl) Kept.refl Kept.trans (pick_stays ⟨eS _,eS _,eS _,eS _,eS _,eS _,eS _,eS _,eS _,eS _,eS _,(fun _ _ _ p b=>by obtain ⟨a,m,c,e,h1⟩:=p;exact ⟨a,m,c,e,h1.below b⟩),eS _,eS _,eS _,eS _,eS _,eS _,eS _,eS _,eS _,eS _,eS _,eS _,eS _,trivial⟩) 168 rfl (by kernel_rfl) (by kernel_rfl) rfl rfl ?r2obl ?r2fin
       case r2obl=>
        refine ⟨?r2o0,?r2o1,?r2o2,?r2o3,?r2o4,?r2o5,?r2o6,?r2o7,?r2o8,?r2o9,?r2o10,?r2o11,?r2o12,?r2o13,?r2o14,?r2o15,?r2o16,?r2o17,?r2o18,?r2o19,?r2o20,?r2o21,?r2o22,?r2o23,?r2o24,trivial⟩
        case r2o0 | r2o1=>
         intro w1 hG;refine t1o (by rfl) ?_;intro K hK;go_simp;refine hK _ _ ⟨rfl,Kept.refl _,?_⟩;show _=_;simp only [gv1];rfl
        case r2o2=>
         intro w1 hG;intro va ha;change _=_ at ha;subst ha;intro vb hb;change _=_ at hb;subst hb;refine t1o (by rfl) ?_;intro K hK;simp only [gv2];go_simp;refine hK _ _ ⟨rfl,Kept.refl _,?_⟩;show _=_;simp only [gv1];rfl
        case r2o3 | r2o4=>
         intro w1 hG;intro va ha;change _=_ at ha;subst ha;refine t1o (by rfl) ?_;intro K hK;simp only [gv2];go_simp;refine hK _ _ ⟨rfl,Kept.refl _,?_⟩;show _=_;simp only [gv1];rfl
        case r2o5=>
         intro w1 hG;intro va ha;change _=_ at ha;subst ha;intro vb hb;change _=_ at hb;subst hb;refine t1o (by rfl) ?_;intro K hK;simp only [gv2];go_simp;refine hK _ _ ⟨rfl,Kept.refl _,?_⟩;show _=_;simp only [gv1];rfl
        case r2o6=>
         intro w1 hG;intro va ha;change _=_ at ha;subst ha;refine t1o (by rfl) ?_;intro K hK;simp only [gv2];go_simp;refine hK _ _ ⟨rfl,Kept.refl _,?_⟩;show _=_;simp only [gv1];rfl
        case r2o7=>
         intro w1 hG;intro v5 h5;change _=_ at h5;subst h5;intro v6 h6;change _=_ at h6;subst h6;refine t1o (by rfl) ?_;intro K hK;simp only [gv2]
         have hbk:=kept_0 hG
         refine wp_conv 135 rfl u8T s8 su _ rfl rfl ((HY.out rfl).below (HBW.out.trans (hbk.mono HBW.out.size))) ?_
         refine hK _ _ ⟨rfl,Kept.refl _,?_⟩;show _=_;simp only [gv1];rfl
        case r2o8 | r2o9 | r2o10=>
         intro w1 hG;intro va ha;change _=_ at ha;subst ha;refine t1o (by rfl) ?_;intro K hK;simp only [gv2];go_simp;refine hK _ _ ⟨rfl,Kept.refl _,?_⟩;show _=_;simp only [gv1];rfl
        case r2o11=>
         intro w1 hG;intro v5 h5;change _=_ at h5;subst h5;intro v8 h8;change _=_ at h8;subst h8;intro v9 h9;change _=_ at h9;subst h9;intro v10 h10;change _=_ at h10;subst h10;refine t1o (by rfl) ?_;intro K hK;simp only [gv2]
         have hbk:=kept_0 hG
         go_simp
         refine Calls.mono (rbytesOf_any (HR3.out.below hbk) (q:Int) HH.out n) ?_
         rintro e w2 ⟨a,m,c,rfl,h1,hb2⟩
         refine hK _ _ ⟨rfl,hb2,?_⟩
         exact ⟨a,m,c,rfl,h1⟩
        case r2o12=>
         intro w1 hG;intro v5 h5;change _=_ at h5;subst h5;intro v11 h11
         obtain ⟨a11,m11,c11,rfl,h11⟩:=h11
         refine t1o (by rfl) ?_;intro K hK;simp only [gv2]
         refine wp_conv 140 rfl u8T s8 su _ rfl rfl h11 ?_
         refine hK _ _ ⟨rfl,Kept.refl _,?_⟩;show _=_;simp only [gv1];rfl
        case r2o13=>
         intro w1 hG;intro va ha;change _=_ at ha;subst ha;intro vb hb;change _=_ at hb;subst hb;intro vc hc;change _=_ at hc;subst hc;refine t1o (by rfl) ?_;intro K hK;simp only [gv2];go_simp;refine hK _ _ ⟨rfl,Kept.refl _,?_⟩;show _=_;simp only [gv1]
        case r2o14=>
         intro w1 hG;intro va ha;change _=_ at ha;subst ha;intro vb hb;change _=_ at hb;subst hb;intro vc hc;change _=_ at hc;subst hc;refine t1o (by rfl) ?_;intro K hK;simp only [gv2];go_simp;refine hK _ _ ⟨rfl,Kept.refl _,?_⟩;show _=_;simp only [gv1];rfl
        case r2o15=>
         intro w1 hG;intro va ha;change _=_ at ha;subst ha;intro vb hb;change _=_ at hb;subst hb;refine t1o (by rfl) ?_;intro K hK;simp only [gv2];go_simp;refine hK _ _ ⟨rfl,Kept.refl _,?_⟩;show _=_;simp only [gv1];rfl
        case r2o16 | r2o17=>
         intro w1 hG;intro va ha;change _=_ at ha;subst ha;refine t1o (by rfl) ?_;intro K hK;simp only [gv2];go_simp;refine hK _ _ ⟨rfl,Kept.refl _,?_⟩;show _=_;simp only [gv1];rfl
        case r2o18 | r2o19=>
         intro w1 hG;intro va ha;change _=_ at ha;subst ha;intro vb hb;change _=_ at hb;subst hb;refine t1o (by rfl) ?_;intro K hK;simp only [gv2];go_simp;refine hK _ _ ⟨rfl,Kept.refl _,?_⟩;show _=_;simp only [gv1];rfl
        case r2o20=>
         intro w1 hG;intro va ha;change _=_ at ha;subst ha;refine turn_off (by rfl) ?_;show _=_;rfl
        case r2o21 | r2o22=>
         intro w1 hG;intro va ha;change _=_ at ha;subst ha;intro vb hb;change _=_ at hb;subst hb;refine turn_off (by rfl) ?_;show _=_;rfl
        case r2o23=>
         intro w1 hG;intro va ha;change _=_ at ha;subst ha;intro vb hb;change _=_ at hb;subst hb;intro vc hc;change _=_ at hc;subst hc;refine t1o (by rfl) ?_;intro K hK;simp only [gv2];go_simp;refine hK _ _ ⟨rfl,Kept.refl _,?_⟩;show _=_;simp only [gv1];rfl
        case r2o24=>
         intro w1 hG;intro va ha;change _=_ at ha;subst ha;intro vb hb;change _=_ at hb;subst hb;refine t1o (by rfl) ?_;intro K hK;simp only [gv2];go_simp;refine hK _ _ ⟨rfl,Kept.refl _,?_⟩;show _=_;simp only [gv1];rfl
       intro w1 hG;intro v0 h0;change _=_ at h0;subst h0;intro v1 h1;change _=_ at h1;subst h1;intro v2 h2;change _=_ at h2;subst h2;intro v3 h3;change _=_ at h3;subst h3;intro v4 h4;change _=_ at h4;subst h4;intro v5 h5;change _=_ at h5;subst h5;intro v6 h6;change _=_ at h6;subst h6;intro v7 h7;change _=_ at h7;subst h7;intro v8 h8;change _=_ at h8;subst h8
       intro v9 h9;change _=_ at h9;subst h9;intro v10 h10;change _=_ at h10;subst h10;intro v11 h11
       obtain ⟨a11,m11,c11,rfl,h11⟩:=h11
       intro v12 h12;change _=_ at h12;subst h12;intro v13 h13;change _=_ at h13;subst h13;intro v14 h14;change _=_ at h14;subst h14;intro v15 h15;change _=_ at h15;subst h15;intro v16 h16;change _=_ at h16;subst h16;intro v17 h17;change _=_ at h17;subst h17;intro v18 h18;change _=_ at h18;subst h18;intro v19 h19;change _=_ at h19;subst h19;intro v20 h20;change _=_ at h20
       subst h20;intro v21 h21;change _=_ at h21;subst h21;intro v22 h22;change _=_ at h22;subst h22;intro v23 h23;change _=_ at h23;subst h23;intro v24 h24;change _=_ at h24;subst h24
       simp only [Given,gv2]
       have hbk:=kept_0 hG
       have HB4:=Lib.hid (Below.call HB3.out hbk)
       have HI4:=Lib.hid (HI3.out.below hbk)
       have HST4:=Lib.hid (HST3.out.below hbk)
       have HRR4:=Lib.hid (HRR3.out.below hbk)
       have HZ4:=Lib.hid (cel hbk HZ0S.out)
       clear h11;clear hG hbk
       obtain ⟨wY,hwY⟩:∃ y:World,y=w1:=⟨_,rfl⟩
       subst hwY;go_wp2_with fail
       refine' reg_free (G:=Kept) (pickF [eqV _,eqV _,(fun v w5=>∃ a c,v=Value.slice a (st.rs (q:Int)).length c∧RdS Rg.cells 3 w5 a (st.rs (q:Int)).length c (st.rs (q:Int))),eqV _,eqV _,eqV _,eqV _,eqV (.bool true),eqV _,eqV _,eqV _,(fun v w5=>∃ a c,v=Value.slice a ((st.ms (q:Int)).map Prod.fst).length c∧RdAt .i64 w5 a ((st.ms (q:Int)).map Prod.fst).length c ((st.ms (q:Int)).map Prod.fst)),eqV _,eqV (.bool true),eqV _,eqV _]) [153,154,155,156,157,158,159,160,161,162,163,164,165,166,167,8] [[],[],[0,1],[],[3],[4],[5],[2,6],[7],[8],[8],[8,9,10],[8],[8,11,12],[8,13],[14]] [0,1,2,3,4,5,6,7,8,9,10,11,12,13,14,15] (by kernel_rfl) Kept.refl Kept.trans (pick_stays ⟨eS _,eS _,(fun _ _ _ p b=>by obtain ⟨a,c,e,h1⟩:=p;exact ⟨a,c,e,h1.below b⟩),eS _,eS _,eS _,eS _,eS _,eS _,eS _,eS _,(fun _ _ _ p b=>by obtain ⟨a,c,e,h1⟩:=p;exact ⟨a,c,e,h1.below b⟩),eS _,eS _,eS _,eS _,trivial⟩) 168 rfl (by kernel_rfl) (by kernel_rfl) rfl rfl ?r3obl ?r3fin
       case r3obl=>
        refine ⟨?r3o0,?r3o1,?r3o2,?r3o3,?r3o4,?r3o5,?r3o6,?r3o7,?r3o8,?r3o9,?r3o10,?r3o11,?r3o12,?r3o13,?r3o14,?r3o15,trivial⟩
        case r3o0 | r3o1 | r3o3=>
         intro w1 hG;refine t1o (by rfl) ?_;intro K hK;go_simp;refine hK _ _ ⟨rfl,Kept.refl _,?_⟩;show _=_;simp only [gv1];rfl
        case r3o2=>
         intro w1 hG;intro v0 h0;change _=_ at h0;subst h0;intro v1 h1;change _=_ at h1;subst h1;refine t1o (by rfl) ?_;intro K hK;simp only [gv2]
         have hbk:=kept_0 hG
         go_simp
         refine Calls.mono (regions_any (HI4.out.below hbk) (q:Int) HP.out) ?_
         rintro e w2 ⟨v,rfl,ho,hb2⟩
         refine hK _ _ ⟨rfl,hb2,?_⟩
         exact ownsS_sl ho
        case r3o4 | r3o5=>
         intro w1 hG;intro va ha;change _=_ at ha;subst ha;refine t1o (by rfl) ?_;intro K hK;simp only [gv2];go_simp;refine hK _ _ ⟨rfl,Kept.refl _,?_⟩;show _=_;simp only [gv1];rfl
        case r3o6=>
         intro w1 hG;intro v5 h5;change _=_ at h5;subst h5;refine t1o (by rfl) ?_;intro K hK;simp only [gv2]
         have hc:=cel (kept_0 hG) HZ4.out
         go_simp;refine hK _ _ ⟨rfl,Kept.refl _,?_⟩;show _=_;simp only [gv1];rfl
        case r3o7=>
         intro w1 hG;intro v2 h2
         obtain ⟨a2,c2,rfl,h2⟩:=h2
         intro v6 h6;change _=_ at h6;subst h6;refine t1o (by rfl) ?_;intro K hK;simp only [gv2]
         have hbk:=kept_0 hG
         go_simp
         have hq:=regs_yes a2 ra (st.rs (q:Int)).length c2 rc (st.rs (q:Int)) w1 h2 (by rw [HRN.out];exact HRR4.out.below hbk) (by rw [HRN.out];omega)
         rw [HRN.out] at hq ⊢
         refine Calls.mono hq ?_
         rintro e w2 ⟨rfl,hb2⟩
         refine hK _ _ ⟨rfl,hb2,?_⟩
         show _=_;simp only [gv1]
        case r3o8 | r3o9 | r3o10=>
         intro w1 hG;intro va ha;change _=_ at ha;subst ha;refine t1o (by rfl) ?_;intro K hK;simp only [gv2];go_simp;refine hK _ _ ⟨rfl,Kept.refl _,?_⟩;show _=_;simp only [gv1];rfl
        case r3o11=>
         intro w1 hG;intro v8 h8;change _=_ at h8;subst h8;intro v9 h9;change _=_ at h9;subst h9;intro v10 h10;change _=_ at h10;subst h10;refine t1o (by rfl) ?_;intro K hK;simp only [gv2]
         have hbk:=kept_0 hG
         go_simp
         refine Calls.mono (stored_any (HI4.out.below hbk) (q:Int)) ?_
         rintro e w2 ⟨v,rfl,ho,hb2⟩
         refine hK _ _ ⟨rfl,hb2,?_⟩
         exact owns_sl ho
        case r3o12=>
         intro w1 hG;intro va ha;change _=_ at ha;subst ha;refine t1o (by rfl) ?_;intro K hK;simp only [gv2];go_simp;refine hK _ _ ⟨rfl,Kept.refl _,?_⟩;show _=_;simp only [gv1];rfl
        case r3o13=>
         intro w1 hG;intro v8 h8;change _=_ at h8;subst h8;intro v11 h11
         obtain ⟨a11,c11,rfl,h11⟩:=h11
         intro v12 h12;change _=_ at h12;subst h12;refine t1o (by rfl) ?_;intro K hK;simp only [gv2]
         have hbk:=kept_0 hG
         go_simp
         have h11b:RdAt .i64 w1 a11 (st.ms (q:Int)).length c11 ((st.ms (q:Int)).map Prod.fst):=by simpa using h11
         refine Calls.mono (ints_yes a11 _ c11 va k vc ((st.ms (q:Int)).map Prod.fst) w1 h11b (HST4.out.below hbk)) ?_
         rintro e w2 ⟨rfl,hb2⟩
         refine hK _ _ ⟨rfl,hb2,?_⟩
         show _=_;simp only [gv1]
        case r3o14=>
         intro w1 hG;intro va ha;change _=_ at ha;subst ha;intro vb hb;change _=_ at hb;subst hb;refine t1o (by rfl) ?_;intro K hK;simp only [gv2];go_simp;refine hK _ _ ⟨rfl,Kept.refl _,?_⟩;show _=_;simp only [gv1];rfl
        case r3o15=>
         intro w1 hG;intro va ha;change _=_ at ha;subst ha;refine t1o (by rfl) ?_;intro K hK;simp only [gv2];go_simp;refine hK _ _ ⟨rfl,Kept.refl _,?_⟩;show _=_;simp only [gv1];rfl
       intro w1 hG;intro v0 h0;change _=_ at h0;subst h0;intro v1 h1;change _=_ at h1;subst h1;intro v2 h2
       obtain ⟨a2,c2,rfl,h2⟩:=h2
       intro v3 h3;change _=_ at h3;subst h3;intro v4 h4;change _=_ at h4;subst h4;intro v5 h5;change _=_ at h5;subst h5;intro v6 h6;change _=_ at h6;subst h6;intro v7 h7;change _=_ at h7;subst h7;intro v8 h8;change _=_ at h8;subst h8;intro v9 h9;change _=_ at h9;subst h9;intro v10 h10;change _=_ at h10;subst h10;intro v11 h11
       obtain ⟨a11,c11,rfl,h11⟩:=h11
       intro v12 h12;change _=_ at h12;subst h12;intro v13 h13;change _=_ at h13;subst h13;intro v14 h14;change _=_ at h14;subst h14;intro v15 h15;change _=_ at h15;subst h15
       simp only [Given,gv2]
       have HB5:=Lib.hid (Below.call HB4.out (kept_0 hG))
       go_wp2_with fail
       go_ret
       exact ⟨rfl,HB5.out⟩
      | false=>
       obtain rfl:pn=0:=HZ.out rfl
       refine' reg_free (G:=Kept) (pickF [eqV _,eqV _,eqV _,eqV _,eqV _,eqV _,eqV _,eqV _,eqV _,eqV _,eqV _,eqV _,eqV _,eqV _,eqV _,eqV _,eqV _,eqV _,eqV _,eqV _,eqV _,eqV _,eqV _,eqV _,eqV _]) [128,129,130,131,132,133,134,135,136,137,138,139,140,141,142,143,144,145,146,147,148,149,150,151,152] [[],[],[0,1],[2],[3],[3,4],[5],[5,6],[5],[5],[5],[5,8,9,10],[5,11],[5,7,12],[3,5,13],[3,14],[15],[16],[16,17],[16,18],[19],[19,20],[19,21],[16,19,22],[16,23]] [0,1,2,3,4,5,6,7,8,9,10,11,12,13,14,15,16,17,18,19,20,21,22,23,24] (by kernel_rfl) Kept.refl Kept.trans (pick_stays ⟨eS _,eS _,eS _,eS _,eS _,eS _,eS _,eS _,eS _,eS _,eS _,eS _,eS _,eS _,eS _,eS _,eS _,eS _,eS _,eS _,eS _,eS _,eS _,eS _,eS _,trivial⟩) 168 rfl (by kernel_rfl) (by kernel_rfl) rfl rfl ?r4obl ?r4fin
       case r4obl=>
        refine ⟨?r4o0,?r4o1,?r4o2,?r4o3,?r4o4,?r4o5,?r4o6,?r4o7,?r4o8,?r4o9,?r4o10,?r4o11,?r4o12,?r4o13,?r4o14,?r4o15,?r4o16,?r4o17,?r4o18,?r4o19,?r4o20,?r4o21,?r4o22,?r4o23,?r4o24,trivial⟩
        case r4o0 | r4o1=>
         intro w1 hG;refine t1o (by rfl) ?_;intro K hK;go_simp;refine hK _ _ ⟨rfl,Kept.refl _,?_⟩;show _=_;simp only [gv1];rfl
        case r4o2=>
         intro w1 hG;intro va ha;change _=_ at ha;subst ha;intro vb hb;change _=_ at hb;subst hb;refine t1o (by rfl) ?_;intro K hK;simp only [gv2];go_simp;refine hK _ _ ⟨rfl,Kept.refl _,?_⟩;show _=_;simp only [gv1];rfl
        case r4o3 | r4o4=>
         intro w1 hG;intro va ha;change _=_ at ha;subst ha;refine t1o (by rfl) ?_;intro K hK;simp only [gv2];go_simp;refine hK _ _ ⟨rfl,Kept.refl _,?_⟩;show _=_;simp only [gv1];rfl
        case r4o5=>
         intro w1 hG;intro va ha;change _=_ at ha;subst ha;intro vb hb;change _=_ at hb;subst hb;refine t1o (by rfl) ?_;intro K hK;simp only [gv2];go_simp;refine hK _ _ ⟨rfl,Kept.refl _,?_⟩;show _=_;simp only [gv1];rfl
        case r4o6=>
         intro w1 hG;intro va ha;change _=_ at ha;subst ha;refine turn_off (by rfl) ?_;show _=_;rfl
        case r4o7=>
         intro w1 hG;intro va ha;change _=_ at ha;subst ha;intro vb hb;change _=_ at hb;subst hb;refine turn_off (by rfl) ?_;show _=_;rfl
        case r4o8 | r4o9 | r4o10=>
         intro w1 hG;intro va ha;change _=_ at ha;subst ha;refine turn_off (by rfl) ?_;show _=_;rfl
        case r4o11=>
         intro w1 hG;intro va ha;change _=_ at ha;subst ha;intro vb hb;change _=_ at hb;subst hb;intro vc hc;change _=_ at hc;subst hc;intro vd hd;change _=_ at hd;subst hd;refine turn_off (by rfl) ?_;show _=_;rfl
        case r4o12=>
         intro w1 hG;intro va ha;change _=_ at ha;subst ha;intro vb hb;change _=_ at hb;subst hb;refine turn_off (by rfl) ?_;show _=_;rfl
        case r4o13=>
         intro w1 hG;intro va ha;change _=_ at ha;subst ha;intro vb hb;change _=_ at hb;subst hb;intro vc hc;change _=_ at hc;subst hc;refine turn_off (by rfl) ?_;show _=_;rfl
        case r4o14=>
         intro w1 hG;intro va ha;change _=_ at ha;subst ha;intro vb hb;change _=_ at hb;subst hb;intro vc hc;change _=_ at hc;subst hc;refine t1o (by rfl) ?_;intro K hK;simp only [gv2];go_simp;refine hK _ _ ⟨rfl,Kept.refl _,?_⟩;show _=_;simp only [gv1];rfl
        case r4o15=>
         intro w1 hG;intro va ha;change _=_ at ha;subst ha;intro vb hb;change _=_ at hb;subst hb;refine t1o (by rfl) ?_;intro K hK;simp only [gv2];go_simp;refine hK _ _ ⟨rfl,Kept.refl _,?_⟩;show _=_;simp only [gv1];rfl
        case r4o16 | r4o17=>
         intro w1 hG;intro va ha;change _=_ at ha;subst ha;refine t1o (by rfl) ?_;intro K hK;simp only [gv2];go_simp;refine hK _ _ ⟨rfl,Kept.refl _,?_⟩;show _=_;simp only [gv1];rfl
        case r4o18 | r4o19=>
         intro w1 hG;intro va ha;change _=_ at ha;subst ha;intro vb hb;change _=_ at hb;subst hb;refine t1o (by rfl) ?_;intro K hK;simp only [gv2];go_simp;refine hK _ _ ⟨rfl,Kept.refl _,?_⟩;show _=_;simp only [gv1];rfl
        case r4o20=>
         intro w1 hG;intro va ha;change _=_ at ha;subst ha;refine t1o (by rfl) ?_;intro K hK;simp only [gv2];go_simp;refine hK _ _ ⟨rfl,Kept.refl _,?_⟩;show _=_;simp only [gv1];rfl
        case r4o21 | r4o22=>
         intro w1 hG;intro va ha;change _=_ at ha;subst ha;intro vb hb;change _=_ at hb;subst hb;refine t1o (by rfl) ?_;intro K hK;simp only [gv2];go_simp;refine hK _ _ ⟨rfl,Kept.refl _,?_⟩;show _=_;simp only [gv1];rfl
        case r4o23=>
         intro w1 hG;intro va ha;change _=_ at ha;subst ha;intro vb hb;change _=_ at hb;subst hb;intro vc hc;change _=_ at hc;subst hc;refine t1o (by rfl) ?_;intro K hK;simp only [gv2];go_simp;refine hK _ _ ⟨rfl,Kept.refl _,?_⟩;show _=_;simp only [gv1];rfl
        case r4o24=>
         intro w1 hG;intro va ha;change _=_ at ha;subst ha;intro vb hb;change _=_ at hb;subst hb;refine t1o (by rfl) ?_;intro K hK;simp only [gv2];go_simp;refine hK _ _ ⟨rfl,Kept.refl _,?_⟩;show _=_;simp only [gv1];rfl
       intro w1 hG;intro v0 h0;change _=_ at h0;subst h0;intro v1 h1;change _=_ at h1;subst h1;intro v2 h2;change _=_ at h2;subst h2;intro v3 h3;change _=_ at h3;subst h3;intro v4 h4;change _=_ at h4;subst h4;intro v5 h5;change _=_ at h5;subst h5;intro v6 h6;change _=_ at h6;subst h6;intro v7 h7;change _=_ at h7;subst h7;intro v8 h8;change _=_ at h8;subst h8
       intro v9 h9;change _=_ at h9;subst h9;intro v10 h10;change _=_ at h10;subst h10;intro v11 h11;change _=_ at h11;subst h11;intro v12 h12;change _=_ at h12;subst h12;intro v13 h13;change _=_ at h13;subst h13;intro v14 h14;change _=_ at h14;subst h14;intro v15 h15;change _=_ at h15;subst h15;intro v16 h16;change _=_ at h16;subst h16;intro v17 h17;change _=_ at h17
       subst h17;intro v18 h18;change _=_ at h18;subst h18;intro v19 h19;change _=_ at h19;subst h19;intro v20 h20;change _=_ at h20;subst h20;intro v21 h21;change _=_ at h21;subst h21;intro v22 h22;change _=_ at h22;subst h22;intro v23 h23;change _=_ at h23;subst h23;intro v24 h24;change _=_ at h24;subst h24
       simp only [Given,gv2]
       have hbk:=kept_0 hG
       have HB4:=Lib.hid (Below.call HB3.out hbk)
       have HI4:=Lib.hid (HI3.out.below hbk)
       have HST4:=Lib.hid (HST3.out.below hbk)
       have HRR4:=Lib.hid (HRR3.out.below hbk)
       have HZ4:=Lib.hid (cel hbk HZ0S.out)
       clear hG hbk
       obtain ⟨wY,hwY⟩:∃ y:World,y=w1:=⟨_,rfl⟩
       subst hwY;go_wp2_with fail
       refine' reg_free (G:=Kept) (pickF [eqV _,eqV _,(fun v w5=>∃ a c,v=Value.slice a (st.rs (q:Int)).length c∧RdS Rg.cells 3 w5 a (st.rs (q:Int)).length c (st.rs (q:Int))),eqV _,eqV _,eqV _,eqV _,eqV (.bool true),eqV _,eqV _,eqV _,(fun v w5=>∃ a c,v=Value.slice a ((st.ms (q:Int)).map Prod.fst).length c∧RdAt .i64 w5 a ((st.ms (q:Int)).map Prod.fst).length c ((st.ms (q:Int)).map Prod.fst)),eqV _,eqV (.bool true),eqV _,eqV _]) [153,154,155,156,157,158,159,160,161,162,163,164,165,166,167,8] [[],[],[0,1],[],[3],[4],[5],[2,6],[7],[8],[8],[8,9,10],[8],[8,11,12],[8,13],[14]] [0,1,2,3,4,5,6,7,8,9,10,11,12,13,14,15] (by kernel_rfl) Kept.refl Kept.trans (pick_stays ⟨eS _,eS _,(fun _ _ _ p b=>by obtain ⟨a,c,e,h1⟩:=p;exact ⟨a,c,e,h1.below b⟩),eS _,eS _,eS _,eS _,eS _,eS _,eS _,eS _,(fun _ _ _ p b=>by obtain ⟨a,c,e,h1⟩:=p;exact ⟨a,c,e,h1.below b⟩),eS _,eS _,eS _,eS _,trivial⟩) 168 rfl (by kernel_rfl) (by kernel_rfl) rfl rfl ?r5obl ?r5fin
       case r5obl=>
        refine ⟨?r5o0,?r5o1,?r5o2,?r5o3,?r5o4,?r5o5,?r5o6,?r5o7,?r5o8,?r5o9,?r5o10,?r5o11,?r5o12,?r5o13,?r5o14,?r5o15,trivial⟩
        case r5o0 | r5o1 | r5o3=>
         intro w1 hG;refine t1o (by rfl) ?_;intro K hK;go_simp;refine hK _ _ ⟨rfl,Kept.refl _,?_⟩;show _=_;simp only [gv1];rfl
        case r5o2=>
         intro w1 hG;intro v0 h0;change _=_ at h0;subst h0;intro v1 h1;change _=_ at h1;subst h1;refine t1o (by rfl) ?_;intro K hK;simp only [gv2]
         have hbk:=kept_0 hG
         go_simp
         refine Calls.mono (regions_any (HI4.out.below hbk) (q:Int) HP.out) ?_
         rintro e w2 ⟨v,rfl,ho,hb2⟩
         refine hK _ _ ⟨rfl,hb2,?_⟩
         exact ownsS_sl ho
        case r5o4 | r5o5=>
         intro w1 hG;intro va ha;change _=_ at ha;subst ha;refine t1o (by rfl) ?_;intro K hK;simp only [gv2];go_simp;refine hK _ _ ⟨rfl,Kept.refl _,?_⟩;show _=_;simp only [gv1];rfl
        case r5o6=>
         intro w1 hG;intro v5 h5;change _=_ at h5;subst h5;refine t1o (by rfl) ?_;intro K hK;simp only [gv2]
         have hc:=cel (kept_0 hG) HZ4.out
         go_simp;refine hK _ _ ⟨rfl,Kept.refl _,?_⟩;show _=_;simp only [gv1];rfl
        case r5o7=>
         intro w1 hG;intro v2 h2
         obtain ⟨a2,c2,rfl,h2⟩:=h2
         intro v6 h6;change _=_ at h6;subst h6;refine t1o (by rfl) ?_;intro K hK;simp only [gv2]
         have hbk:=kept_0 hG
         go_simp
         have hq:=regs_yes a2 ra (st.rs (q:Int)).length c2 rc (st.rs (q:Int)) w1 h2 (by rw [HRN.out];exact HRR4.out.below hbk) (by rw [HRN.out];omega)
         rw [HRN.out] at hq ⊢
         refine Calls.mono hq ?_
         rintro e w2 ⟨rfl,hb2⟩
         refine hK _ _ ⟨rfl,hb2,?_⟩
         show _=_;simp only [gv1]
        case r5o8 | r5o9 | r5o10=>
         intro w1 hG;intro va ha;change _=_ at ha;subst ha;refine t1o (by rfl) ?_;intro K hK;simp only [gv2];go_simp;refine hK _ _ ⟨rfl,Kept.refl _,?_⟩;show _=_;simp only [gv1];rfl
        case r5o11=>
         intro w1 hG;intro v8 h8;change _=_ at h8;subst h8;intro v9 h9;change _=_ at h9;subst h9;intro v10 h10;change _=_ at h10;subst h10;refine t1o (by rfl) ?_;intro K hK;simp only [gv2]
         have hbk:=kept_0 hG
         go_simp
         refine Calls.mono (stored_any (HI4.out.below hbk) (q:Int)) ?_
         rintro e w2 ⟨v,rfl,ho,hb2⟩
         refine hK _ _ ⟨rfl,hb2,?_⟩
         exact owns_sl ho
        case r5o12=>
         intro w1 hG;intro va ha;change _=_ at ha;subst ha;refine t1o (by rfl) ?_;intro K hK;simp only [gv2];go_simp;refine hK _ _ ⟨rfl,Kept.refl _,?_⟩;show _=_;simp only [gv1];rfl
        case r5o13=>
         intro w1 hG;intro v8 h8;change _=_ at h8;subst h8;intro v11 h11
         obtain ⟨a11,c11,rfl,h11⟩:=h11
         intro v12 h12;change _=_ at h12;subst h12;refine t1o (by rfl) ?_;intro K hK;simp only [gv2]
         have hbk:=kept_0 hG
         go_simp
         have h11b:RdAt .i64 w1 a11 (st.ms (q:Int)).length c11 ((st.ms (q:Int)).map Prod.fst):=by simpa using h11
         refine Calls.mono (ints_yes a11 _ c11 va k vc ((st.ms (q:Int)).map Prod.fst) w1 h11b (HST4.out.below hbk)) ?_
         rintro e w2 ⟨rfl,hb2⟩
         refine hK _ _ ⟨rfl,hb2,?_⟩
         show _=_;simp only [gv1]
        case r5o14=>
         intro w1 hG;intro va ha;change _=_ at ha;subst ha;intro vb hb;change _=_ at hb;subst hb;refine t1o (by rfl) ?_;intro K hK;simp only [gv2];go_simp;refine hK _ _ ⟨rfl,Kept.refl _,?_⟩;show _=_;simp only [gv1];rfl
        case r5o15=>
         intro w1 hG;intro va ha;change _=_ at ha;subst ha;refine t1o (by rfl) ?_;intro K hK;simp only [gv2];go_simp;refine hK _ _ ⟨rfl,Kept.refl _,?_⟩;show _=_;simp only [gv1];rfl
       intro w1 hG;intro v0 h0;change _=_ at h0;subst h0;intro v1 h1;change _=_ at h1;subst h1;intro v2 h2
       obtain ⟨a2,c2,rfl,h2⟩:=h2
       intro v3 h3;change _=_ at h3;subst h3;intro v4 h4;change _=_ at h4;subst h4;intro v5 h5;change _=_ at h5;subst h5;intro v6 h6;change _=_ at h6;subst h6;intro v7 h7;change _=_ at h7;subst h7;intro v8 h8;change _=_ at h8;subst h8;intro v9 h9;change _=_ at h9;subst h9;intro v10 h10;change _=_ at h10;subst h10;intro v11 h11
       obtain ⟨a11,c11,rfl,h11⟩:=h11
       intro v12 h12;change _=_ at h12;subst h12;intro v13 h13;change _=_ at h13;subst h13;intro v14 h14;change _=_ at h14;subst h14;intro v15 h15;change _=_ at h15;subst h15
       simp only [Given,gv2]
       have HB5:=Lib.hid (Below.call HB4.out (kept_0 hG))
       go_wp2_with fail
       go_ret
       exact ⟨rfl,HB5.out⟩
end
end Go.Proofs.YtoepnbfifjgpfaaGreat
