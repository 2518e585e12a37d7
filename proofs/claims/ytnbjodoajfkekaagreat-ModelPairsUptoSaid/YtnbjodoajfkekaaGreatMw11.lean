/- Whether two machines are the same (Same). -/
import Derived.Test.YtnbjodoajfkekaaGreatMv0
import Derived.Test.YtnbjodoajfkekaaGreatMw8
import Derived.Test.YtnbjodoajfkekaaGreatMv21
import Derived.Test.YtnbjodoajfkekaaGreatMw9
import Derived.WalkKit
import Derived.ProofKit
import Derived.BigQuiet
import Derived.Deep.QuietTactic
import Derived.Lib.Hide
import Derived.RegionTactic
namespace Go.Proofs.YtnbjodoajfkekaaGreat
open Go.RowKit
set_option linter.unusedSimpArgs false
/-- Two machines have the same in one's pages. -/
def PagesOk (st st2 s:Mc):Prop:=∀ p,∀ x ∈ s.ms p,pgB st.c.page (st.ms p) x.1=pgB st2.c.page (st2.ms p) x.1
def SameP (st st2:Mc):Prop:=st.c.page=st2.c.page∧pidsK st.v st.pr=pidsK st2.v st2.pr∧(∀ p ∈ pidsK st.v st.pr,st.rs p=st2.rs p)∧PagesOk st st2 st∧PagesOk st st2 st2
structure SmR (B r pb:Nat) (E:List ((Int × Int) × Value)) (st st2:Mc) (w wr:World) (L X:List ((Int × Int) × Value)):Prop where
 it:IterG MP wr pb r E L
 all:E.Perm (L ++ X)
 ok:∀ q ∈ X,pgB st.c.page (st.ms q.1.1) q.1.2=pgB st2.c.page (st2.ms q.1.1) q.1.2
 bel:Below B w wr
section
variable {No:Nat→Prop} {h h2:McH} {st st2:Mc} {w:World}
set_option maxHeartbeats 4000000 in
set_option maxRecDepth 100000 in
theorem same_any (i:McIn w No h st) (j:McIn w No h2 st2):Calls Tryz.prog 26 #[.pointer (some ⟨h.m,0,none⟩),.pointer (some ⟨h2.m,0,none⟩)] w fun e w'=>∃ b:Bool,e = .returned (.bool b)∧(b=true↔SameP st st2)∧Below w.heap.size w w':=by
 obtain ⟨c4,c6,c7,c8,c9,c10,c11⟩:=i.cells
 obtain ⟨d4,d6,d7,d8,d9,d10,d11⟩:=j.cells
 have HI:=Lib.hid i;have HJ:=Lib.hid j
 obtain ⟨PG,hPG⟩:∃ x,st.c.page=x:=⟨_,rfl⟩
 obtain ⟨PG2,hPG2⟩:∃ x,st2.c.page=x:=⟨_,rfl⟩
 rw [hPG] at c4;rw [hPG2] at d4;have HPG:=Lib.hid hPG;have HPG2:=Lib.hid hPG2;clear i j c6 c7 c8 c9 d6 d7 d8 d9 c11 d11 hPG hPG2
 by_cases hpp:PG=PG2
 ·subst hpp
  obtain ⟨PB,hPB⟩:∃ x,decide (pidsK st.v st.pr=pidsK st2.v st2.pr)=x:=⟨_,rfl⟩
  have HPB:=Lib.hid hPB;clear hPB
  go_enter Tryz.func26,Tryz.ntmps26
  go_wp2_with fail
  refine' reg_free (G:=Kept) (pickF [eqV _,eqV _,eqV _,eqV _,eqV _,eqV _,eqV _,eqV _,eqV _,eqV _,eqV _,eqV _,eqV _,(fun v w5=>∃ a n c,v = .slice a n c∧RdAt .i64 w5 a n c (pidsK st.v st.pr)),eqV _,(fun v w5=>∃ a n c,v = .slice a n c∧RdAt .i64 w5 a n c (pidsK st2.v st2.pr)),eqV _,eqV _,eqV _]) [10,11,12,13,14,15,16,17,18,19,20,21,22,23,24,25,26,27,28] [[],[0],[1],[2],[3],[],[5],[6],[7],[8],[4,9],[10],[11],[11,12],[11],[11,14],[11,13,15],[11,16],[11,17]] [0,1,2,3,4,5,6,7,8,9,10,11,12,13,14,15,16,17,18] (by kernel_rfl) Kept.refl Kept.trans (pick_stays ⟨eS _,eS _,eS _,eS _,eS _,eS _,eS _,eS _,eS _,eS _,eS _,eS _,eS _,(fun _ _ _ p b=>by obtain ⟨a,n,c,e,h1⟩:=p;exact ⟨a,n,c,e,h1.below b⟩),eS _,(fun _ _ _ p b=>by obtain ⟨a,n,c,e,h1⟩:=p;exact ⟨a,n,c,e,h1.below b⟩),eS _,eS _,eS _,trivial⟩) 83 rfl (by kernel_rfl) (by kernel_rfl) rfl rfl ?r1obl ?r1fin
  case r1obl=>
   refine ⟨?r1o0,?r1o1,?r1o2,?r1o3,?r1o4,?r1o5,?r1o6,?r1o7,?r1o8,?r1o9,?r1o10,?r1o11,?r1o12,?r1o13,?r1o14,?r1o15,?r1o16,?r1o17,?r1o18,trivial⟩
   case r1o0 | r1o5=>
    intro w1 hG;refine t1o (by rfl) ?_;intro K hK;go_simp;refine hK _ _ ⟨rfl,Kept.refl _,?_⟩;show _=_;simp only [gv1];rfl
   case r1o1 | r1o2 | r1o3=>
    intro w1 hG;intro va ha;change _=_ at ha;subst ha;refine t1o (by rfl) ?_;intro K hK;simp only [gv2];go_simp;refine hK _ _ ⟨rfl,Kept.refl _,?_⟩;show _=_;simp only [gv1];rfl
   case r1o4=>
    intro w1 hG;intro v3 h3;change _=_ at h3;subst h3;refine t1o (by rfl) ?_;intro K hK;simp only [gv2]
    have hcc:=cel (kept_0 hG) c4
    go_simp;refine hK _ _ ⟨rfl,Kept.refl _,?_⟩;show _=_;simp only [gv1];rfl
   case r1o6 | r1o7 | r1o8=>
    intro w1 hG;intro va ha;change _=_ at ha;subst ha;refine t1o (by rfl) ?_;intro K hK;simp only [gv2];go_simp;refine hK _ _ ⟨rfl,Kept.refl _,?_⟩;show _=_;simp only [gv1];rfl
   case r1o9=>
    intro w1 hG;intro v8 h8;change _=_ at h8;subst h8;refine t1o (by rfl) ?_;intro K hK;simp only [gv2]
    have hcc:=cel (kept_0 hG) d4
    go_simp;refine hK _ _ ⟨rfl,Kept.refl _,?_⟩;show _=_;simp only [gv1];rfl
   case r1o10=>
    intro w1 hG;intro va ha;change _=_ at ha;subst ha;intro vb hb;change _=_ at hb;subst hb;refine t1o (by rfl) ?_;intro K hK;simp only [gv2];go_simp;refine hK _ _ ⟨rfl,Kept.refl _,?_⟩;show _=_;simp only [gv1];rfl
   case r1o11 | r1o12=>
    intro w1 hG;intro va ha;change _=_ at ha;subst ha;refine t1o (by rfl) ?_;intro K hK;simp only [gv2];go_simp;refine hK _ _ ⟨rfl,Kept.refl _,?_⟩;show _=_;simp only [gv1];rfl
   case r1o13=>
    intro w1 hG;intro v11 h11;change _=_ at h11;subst h11;intro v12 h12;change _=_ at h12;subst h12;refine t1o (by rfl) ?_;intro K hK;simp only [gv2];go_simp
    refine Calls.mono (pids_any (HI.out.below (kept_0 hG))) ?_
    rintro e w2 ⟨vv,rfl,hov,hbx⟩
    refine hK _ _ ⟨rfl,hbx,?_⟩
    obtain ⟨a9,c9,rfl⟩:=hov.shape
    exact ⟨_,_,_,rfl,hov.rd⟩
   case r1o14=>
    intro w1 hG;intro va ha;change _=_ at ha;subst ha;refine t1o (by rfl) ?_;intro K hK;simp only [gv2];go_simp;refine hK _ _ ⟨rfl,Kept.refl _,?_⟩;show _=_;simp only [gv1];rfl
   case r1o15=>
    intro w1 hG;intro v11 h11;change _=_ at h11;subst h11;intro v14 h14;change _=_ at h14;subst h14;refine t1o (by rfl) ?_;intro K hK;simp only [gv2];go_simp
    refine Calls.mono (pids_any (HJ.out.below (kept_0 hG))) ?_
    rintro e w2 ⟨vv,rfl,hov,hbx⟩
    refine hK _ _ ⟨rfl,hbx,?_⟩
    obtain ⟨a9,c9,rfl⟩:=hov.shape
    exact ⟨_,_,_,rfl,hov.rd⟩
   case r1o16=>
    intro w1 hG;intro v11 h11;change _=_ at h11;subst h11;intro v13 h13
    obtain ⟨a13,n13,c13,rfl,h13⟩:=h13
    intro v15 h15
    obtain ⟨a15,n15,c15,rfl,h15⟩:=h15
    refine t1o (by rfl) ?_;intro K hK;simp only [gv2];go_simp
    refine Calls.mono (equalI_any a13 n13 c13 _ a15 n15 c15 _ w1 h13 h15 ⟨by have h1:=h13.len;have h2:=pidsK_le st.v st.pr;have h3:=HI.out.ok.prL;omega,by have h1:=h15.len;have h2:=pidsK_le st2.v st2.pr;have h3:=HJ.out.ok.prL;omega⟩) ?_
    rintro e w2 ⟨rfl,hbx⟩
    rw [HPB.out]
    refine hK _ _ ⟨rfl,hbx,?_⟩
    show _=_;simp only [gv1];rfl
   case r1o17 | r1o18=>
    intro w1 hG;intro va ha;change _=_ at ha;subst ha;intro vb hb;change _=_ at hb;subst hb;refine t1o (by rfl) ?_;intro K hK;simp only [gv2];go_simp;refine hK _ _ ⟨rfl,Kept.refl _,?_⟩;show _=_;simp only [gv1];rfl
  intro w1 hG;intro v0 h0;change _=_ at h0;subst h0;intro v1 h1;change _=_ at h1;subst h1;intro v2 h2;change _=_ at h2;subst h2;intro v3 h3;change _=_ at h3;subst h3;intro v4 h4;change _=_ at h4;subst h4;intro v5 h5;change _=_ at h5;subst h5;intro v6 h6;change _=_ at h6;subst h6;intro v7 h7;change _=_ at h7;subst h7;intro v8 h8;change _=_ at h8;subst h8
  intro v9 h9;change _=_ at h9;subst h9;intro v10 h10;change _=_ at h10;subst h10;intro v11 h11;change _=_ at h11;subst h11;intro v12 h12;change _=_ at h12;subst h12;intro v13 h13
  obtain ⟨a13,n13,c13,rfl,h13⟩:=h13
  intro v14 h14;change _=_ at h14;subst h14;intro v15 h15
  obtain ⟨a15,n15,c15,rfl,h15⟩:=h15
  intro v16 h16;change _=_ at h16;subst h16;intro v17 h17;change _=_ at h17;subst h17;intro v18 h18;change _=_ at h18;subst h18
  simp only [Given,gv2]
  have hb1:=kept_0 hG
  have HB1:=Lib.hid hb1
  have HI1:=Lib.hid (HI.out.below hb1)
  have HJ1:=Lib.hid (HJ.out.below hb1)
  replace c10:=cel hb1 c10;replace d10:=cel hb1 d10;clear hG hb1 h13 h15 c4 d4
  cases PB with
  | false=>
   go_wp2
   go_ret
   exact ⟨false,rfl,⟨fun e=>(by cases e),fun e=>by have h1:=HPB.out;rw [decide_eq_false_iff_not] at h1;exact absurd e.2.1 h1⟩,HB1.out⟩
  | true=>
   have HPID:Hid (pidsK st.v st.pr=pidsK st2.v st2.pr):=Lib.hid (of_decide_eq_true HPB.out)
   have HC3:=Lib.hid (pids_any HI1.out)
   obtain ⟨PL,hPL⟩:∃ x,pidsK st.v st.pr=x:=⟨_,rfl⟩
   rw [hPL] at HC3;have HPL:=Lib.hid hPL;clear hPL;go_wp2_with fail
   refine HC3.out.mono ?_
   rintro e w3 ⟨v3,rfl,ho3,hb3⟩
   obtain ⟨NP,hNP⟩:∃ x,PL.length=x:=⟨_,rfl⟩
   obtain ⟨a3,cc3,rfl⟩:=ho3.shapeN NP hNP
   have HNP:=Lib.hid hNP;have HRD3:=Lib.hid ho3.rd
   have HB3:=Lib.hid (Below.call HB1.out hb3)
   have HI3:=Lib.hid (HI1.out.below hb3)
   have HJ3:=Lib.hid (HJ1.out.below hb3)
   replace c10:=cel hb3 c10;replace d10:=cel hb3 d10
   have hnb:NP≤64:=by
    have h1:=pidsK_le st.v st.pr
    have h2:=HI.out.ok.prL
    have h3:=HPL.out
    have h4:=HNP.out
    rw [h3] at h1
    omega
   have HNB:=Lib.hid hnb;clear ho3 hb3 HC3 hNP;go_wp2_with fail
   go_loopw [32] (fun iv wr=>∃ k:Nat,k≤NP∧iv = .int .i64 k∧Hid (Below w3.heap.size w3 wr)∧Hid (∀ q,q < k→st.rs (nth PL q)=st2.rs (nth PL q))) (fun iv _=>NP - (intOf iv).toNat)
   case atStart=>exact ⟨0,by omega,rfl,Below.refl _ _,fun q hq=>(by omega)⟩
   case round=>
    obtain ⟨k,hk,rfl,HB,HOK⟩:=hrel
    by_cases hlt:k < NP
    ·have dl:decide ((k:Int) < (NP:Int))=true:=decide_eq_true (by omega)
     obtain ⟨b,o,rfl,hc⟩:=(HRD3.out.below HB.out).cell k hlt
     have hwf:=HRD3.out.wfAt k hlt
     obtain ⟨P,hP⟩:∃ x,nth PL k=x:=⟨_,rfl⟩
     rw [hP] at hc hwf;have HP:=Lib.hid hP
     have HIr:=Lib.hid (HI3.out.below HB.out)
     have HJr:=Lib.hid (HJ3.out.below HB.out)
     obtain ⟨ra,rn,rc,hlk,hrr,_⟩:=HIr.out.lookRB P hwf
     obtain ⟨sa,sn,sc,hlk2,hrr2,_⟩:=HJr.out.lookRB P hwf
     have HLK:=Lib.hid hlk;have HLK2:=Lib.hid hlk2
     have HRR:Hid (RdS Rg.cells 3 wr ra rn rc (st.rs P)):=hrr
     have HRR2:Hid (RdS Rg.cells 3 wr sa sn sc (st2.rs P)):=hrr2
     have HRN:Hid (rn≤1000000):=by have h1:=HRR.out.len;have h2:=HI.out.few P;show _≤_;omega
     have HRN2:Hid (sn≤1000000):=by have h1:=HRR2.out.len;have h2:=HJ.out.few P;show _≤_;omega
     have C10:=Lib.hid (cel HB.out c10)
     have D10:=Lib.hid (cel HB.out d10)
     obtain ⟨QB,hQB⟩:∃ x,decide (st.rs P=st2.rs P)=x:=⟨_,rfl⟩
     have HQB:=Lib.hid hQB;clear hlk hlk2 hrr hrr2 hP hQB c10 d10;go_wp2_with fail
     refine' reg_free (G:=Kept) (pickF [eqV _,eqV _,eqV _,eqV _,eqV _,eqV _,eqV _,eqV _,eqV _,eqV _,eqV _,eqV _,eqV _,eqV _]) [36,37,38,39,40,41,42,43,44,45,46,47,48,49] [[],[0],[1],[2],[],[3,4],[],[6],[7],[8],[],[9,10],[5,11],[12]] [0,1,2,3,4,5,6,7,8,9,10,11,12,13] (by kernel_rfl) Kept.refl Kept.trans (pick_stays ⟨eS _,eS _,eS _,eS _,eS _,eS _,eS _,eS _,eS _,eS _,eS _,eS _,eS _,eS _,trivial⟩) 83 rfl (by kernel_rfl) (by kernel_rfl) rfl rfl ?r2obl ?r2fin
     case r2obl=>
      refine ⟨?r2o0,?r2o1,?r2o2,?r2o3,?r2o4,?r2o5,?r2o6,?r2o7,?r2o8,?r2o9,?r2o10,?r2o11,?r2o12,?r2o13,trivial⟩
      case r2o0 | r2o4 | r2o6 | r2o10=>
       intro w1 hG;refine t1o (by rfl) ?_;intro K hK;go_simp;refine hK _ _ ⟨rfl,Kept.refl _,?_⟩;show _=_;simp only [gv1];rfl
      case r2o1 | r2o2=>
       intro w1 hG;intro va ha;change _=_ at ha;subst ha;refine t1o (by rfl) ?_;intro K hK;simp only [gv2];go_simp;refine hK _ _ ⟨rfl,Kept.refl _,?_⟩;show _=_;simp only [gv1];rfl
      case r2o3=>
       intro w1 hG;intro v2 h2;change _=_ at h2;subst h2;refine t1o (by rfl) ?_;intro K hK;simp only [gv2]
       have hcc:=cel (kept_0 hG) C10.out
       go_simp;refine hK _ _ ⟨rfl,Kept.refl _,?_⟩;show _=_;simp only [gv1];rfl
      case r2o5=>
       intro w1 hG;intro v3 h3;change _=_ at h3;subst h3;intro v4 h4;change _=_ at h4;subst h4;refine t1o (by rfl) ?_;intro K hK;simp only [gv2]
       have hlk:=HLK.out w1 (kept_0 hG)
       go_simp;refine hK _ _ ⟨rfl,Kept.refl _,?_⟩;show _=_;simp only [gv1];rfl
      case r2o7 | r2o8=>
       intro w1 hG;intro va ha;change _=_ at ha;subst ha;refine t1o (by rfl) ?_;intro K hK;simp only [gv2];go_simp;refine hK _ _ ⟨rfl,Kept.refl _,?_⟩;show _=_;simp only [gv1];rfl
      case r2o9=>
       intro w1 hG;intro v8 h8;change _=_ at h8;subst h8;refine t1o (by rfl) ?_;intro K hK;simp only [gv2]
       have hcc:=cel (kept_0 hG) D10.out
       go_simp;refine hK _ _ ⟨rfl,Kept.refl _,?_⟩;show _=_;simp only [gv1];rfl
      case r2o11=>
       intro w1 hG;intro v9 h9;change _=_ at h9;subst h9;intro v10 h10;change _=_ at h10;subst h10;refine t1o (by rfl) ?_;intro K hK;simp only [gv2]
       have hlk:=HLK2.out w1 (kept_0 hG)
       go_simp;refine hK _ _ ⟨rfl,Kept.refl _,?_⟩;show _=_;simp only [gv1];rfl
      case r2o12=>
       intro w1 hG;intro v5 h5;change _=_ at h5;subst h5;intro v11 h11;change _=_ at h11;subst h11;refine t1o (by rfl) ?_;intro K hK;simp only [gv2];go_simp
       refine Calls.mono (equalR_any ra rn rc _ sa sn sc _ w1 (HRR.out.below (kept_0 hG)) (HRR2.out.below (kept_0 hG)) ⟨HRN.out,HRN2.out⟩) ?_
       rintro e w2 ⟨rfl,hbx⟩
       rw [HQB.out]
       refine hK _ _ ⟨rfl,hbx,?_⟩
       show _=_;simp only [gv1];rfl
      case r2o13=>
       intro w1 hG;intro va ha;change _=_ at ha;subst ha;refine t1o (by rfl) ?_;intro K hK;simp only [gv2];go_simp;refine hK _ _ ⟨rfl,Kept.refl _,?_⟩;show _=_;simp only [gv1];rfl
     intro w1 hG;intro v0 h0;change _=_ at h0;subst h0;intro v1 h1;change _=_ at h1;subst h1;intro v2 h2;change _=_ at h2;subst h2;intro v3 h3;change _=_ at h3;subst h3;intro v4 h4;change _=_ at h4;subst h4;intro v5 h5;change _=_ at h5;subst h5;intro v6 h6;change _=_ at h6;subst h6;intro v7 h7;change _=_ at h7;subst h7;intro v8 h8;change _=_ at h8;subst h8
     intro v9 h9;change _=_ at h9;subst h9;intro v10 h10;change _=_ at h10;subst h10;intro v11 h11;change _=_ at h11;subst h11;intro v12 h12;change _=_ at h12;subst h12;intro v13 h13;change _=_ at h13;subst h13
     simp only [Given,gv2]
     have HB6:=Lib.hid (Below.call HB.out (kept_0 hG))
     clear hG hc hwf
     cases QB with
     | false=>
      go_wp2
      go_ret
      refine ⟨false,rfl,⟨fun e=>(by cases e),fun e=>?_⟩,HB3.out.trans (HB6.out.mono HB3.out.size)⟩
      have h1:=HQB.out
      rw [decide_eq_false_iff_not] at h1
      refine absurd (e.2.2.1 P ?_) h1
      rw [HPL.out,← HP.out,nth_eq (by have:=HNP.out;omega)]
      exact List.getElem_mem _
     | true=>
      have HOK2:Hid (∀ q,q < k+1→st.rs (nth PL q)=st2.rs (nth PL q)):=fun q hq=>by
       by_cases e:q=k
       ·rw [e,HP.out];exact of_decide_eq_true HQB.out
       ·exact HOK.out q (by omega)
      go_wp2_with fail
      go_roundw
      case rel=>exact ⟨k+1,by omega,by go_num,HB6,HOK2⟩
      case measure=>simp [intOf] <;> omega
    ·obtain rfl:k=NP:=by omega
     have dl:decide ((k:Int) < (k:Int))=false:=decide_eq_false (by omega)
     have HRGS:Hid (∀ p ∈ pidsK st.v st.pr,st.rs p=st2.rs p):=fun p hp=>by
      rw [HPL.out] at hp
      obtain ⟨q,hq,rfl⟩:=List.getElem_of_mem hp
      have:=HOK.out q (by rw [← HNP.out];exact hq)
      rwa [nth_eq hq] at this
     obtain ⟨wL,hwL⟩:∃ x:World,x=wr:=⟨_,rfl⟩
     subst hwL
     have hba:=below_a wL (.cells #[.pointer (some ⟨h.m,0,none⟩),.pointer (some ⟨h2.m,0,none⟩)] 28)
     have hrow:=heap_alloc_new wL (.cells #[.pointer (some ⟨h.m,0,none⟩),.pointer (some ⟨h2.m,0,none⟩)] 28)
     obtain ⟨wA,hwA⟩:∃ x,wL.alloc (.cells #[.pointer (some ⟨h.m,0,none⟩),.pointer (some ⟨h2.m,0,none⟩)] 28)=x:=⟨_,rfl⟩
     obtain ⟨g,hg⟩:∃ x,wL.heap.size=x:=⟨_,rfl⟩
     rw [hwA] at hba hrow;rw [hg] at hrow;have HWA:=Lib.hid hwA;have HGG:=Lib.hid hg
     have HQ0:Hid (wA.cell? ⟨g,0,none⟩=some (.pointer (some ⟨h.m,0,none⟩))):=cell_of_row wA g 0 _ _ _ hrow
     have HQ1:Hid (wA.cell? ⟨g,1,none⟩=some (.pointer (some ⟨h2.m,0,none⟩))):=cell_of_row wA g 1 _ _ _ hrow
     have HBA:=Lib.hid (HB3.out.trans ((Below.call HB.out hba).mono HB3.out.size))
     have HIA:=Lib.hid (HI.out.below HBA.out)
     have HJA:=Lib.hid (HJ.out.below HBA.out)
     clear hba hrow hwA c10 d10 hk hlt HOK;go_wp2_with fail;rw [HWA.out]
     go_loopw [55] (fun iv wq=>∃ k2:Nat,k2≤2∧iv = .int .i64 k2∧Hid (Below wA.heap.size wA wq)∧Hid (1≤k2→PagesOk st st2 st)∧Hid (2≤k2→PagesOk st st2 st2)) (fun iv _=>2 - (intOf iv).toNat)
     case atStart=>exact ⟨0,by omega,rfl,Below.refl _ _,fun e=>(by omega),fun e=>(by omega)⟩
     case round=>
      obtain ⟨wq,hwq⟩:∃ x:World,x=wr:=⟨_,rfl⟩
      subst hwq
      obtain ⟨k2,hk2,rfl,HB2,HP1,HP2⟩:=hrel
      by_cases hl2:k2 < 2
      ·have dl2:decide ((k2:Int) < 2)=true:=decide_eq_true (by omega)
       obtain ⟨hh,sx,HX,HCX,HSX⟩:∃ (hh:McH) (sx:Mc),Hid (McIn wq No hh sx)∧Hid (wq.cell? ⟨g,k2,none⟩=some (.pointer (some ⟨hh.m,0,none⟩)))∧Hid ((k2=0∧sx=st)∨(k2=1∧sx=st2)):=by
        by_cases e:k2=0
        ·subst e
         exact ⟨h,st,HIA.out.below HB2.out,cel HB2.out HQ0.out,.inl ⟨rfl,rfl⟩⟩
        ·have e1:k2=1:=by omega
         subst e1
         exact ⟨h2,st2,HJA.out.below HB2.out,cel HB2.out HQ1.out,.inr ⟨rfl,rfl⟩⟩
       obtain ⟨_,_,_,_,_,_,x11⟩:=HX.out.cells
       obtain ⟨_,E,_,e2,_,e4⟩:=HX.out.dat
       obtain ⟨w0,hrun,hit,hg0,hs0⟩:=mg_range e2
       have hcx:=HCX.out
       have HE4:=Lib.hid e4
       have ST:Hid (SmR wA.heap.size wq.heap.size hh.pb E st st2 wA w0 E []):=⟨hit,by simp,fun q hq=>(by cases hq),HB2.out.trans (Below.mono ⟨hg0.os,hg0.tape,hg0.output,hg0.size,fun k hk=>hg0.block k hk (by simp)⟩ HB2.out.size)⟩
       have HPBL:=Lib.hid e2.lt;clear hit hg0 hs0 e2 e4;go_wp2_with fail
       go_loopw [9] (fun _ wx=>∃ L X,Hid (SmR wA.heap.size wq.heap.size hh.pb E st st2 wA wx L X)) (fun _ wx=>wx.rangeLeft hh.pb wq.heap.size)
       case atStart=>exact ⟨_,_,ST⟩
       case round=>
        clear ST hrun x11 hcx
        obtain ⟨L,X,HR⟩:=hrel
        rcases ig_next HR.out.it 0 with ⟨hl,hnx⟩ | ⟨q,L',wn,hpL,hpD,hnx,hit1,hg1,hs1,hen⟩
        ·subst hl
         have hall:E.Perm X:=by simpa using HR.out.all
         have HPO:Hid (PagesOk st st2 sx):=fun p x hx=>by
          obtain ⟨v,hv⟩:=HE4.out.has p x hx
          exact HR.out.ok _ (hall.mem_iff.1 hv)
         have HBX:=Lib.hid HR.out.bel
         have HN1:Hid (1≤k2+1→PagesOk st st2 st):=fun _=>by
          rcases HSX.out with ⟨_,e⟩ | ⟨e,_⟩
          ·rw [← e];have:=HPO.out;rw [e] at this ⊢;exact this
          ·exact HP1.out (by omega)
         have HN2:Hid (2≤k2+1→PagesOk st st2 st2):=fun e2=>by
          rcases HSX.out with ⟨e,_⟩ | ⟨_,e⟩
          ·omega
          ·have:=HPO.out;rw [e] at this;exact this
         clear hall HR;go_wp2_with fail
         go_roundw
         case rel=>exact ⟨k2+1,by omega,by go_num,HBX,HN1,HN2⟩
         case measure=>simp [intOf] <;> omega
        ·obtain ⟨⟨p1,p2⟩,v⟩:=q
         replace hnx:(Instr.next (.pointer (some ⟨wq.heap.size,0,none⟩)) false 0).run Tryz.prog wr = .ok (.tuple #[.bool true,.agg #[.int .i64 p1,.int .i64 p2],v]) wn:=hnx
         replace hen:(Instr.entry (.pointer (some ⟨wq.heap.size,0,none⟩))).run Tryz.prog wn = .ok (.tuple #[.agg #[.int .i64 p1,.int .i64 p2],v]) wn:=hen
         have hok:=HR.out.it.map.ok _ hpD
         have HLN:Hid (L'.length < L.length):=by have:=hpL.length_eq;simp at this;show _ < _;omega
         have HMS:=Lib.hid HR.out.it.left
         have HEP:Hid (E.Perm (L' ++ (X ++ [((p1,p2),v)]))):=by
          refine HR.out.all.trans ((hpL.append_right X).trans ?_)
          rw [← List.append_assoc]
          exact (List.perm_append_singleton _ _).symm
         obtain ⟨xb,HXB,_⟩:=HE4.out.all _ hpD
         have HXB:=Lib.hid HXB
         have hq2:=HB2.out.size
         have hb1:Below wA.heap.size wA wn:=Below.grown HR.out.bel hg1 HR.out.bel.size (fun k e=>by injection e with e;omega)
         have hbx:=below_a wn (.cells #[.int .i64 p1,.int .i64 p2] 136)
         have hrow:=heap_alloc_new wn (.cells #[.int .i64 p1,.int .i64 p2] 136)
         have hit2:IterG MP (wn.alloc (.cells #[.int .i64 p1,.int .i64 p2] 136)) hh.pb wq.heap.size E L':=hit1.grown (World.grownBy_alloc wn _ none) (by simp) (by simp)
         obtain ⟨W2,hW2⟩:∃ x,wn.alloc (.cells #[.int .i64 p1,.int .i64 p2] 136)=x:=⟨_,rfl⟩
         obtain ⟨bb,hbb⟩:∃ x,wn.heap.size=x:=⟨_,rfl⟩
         rw [hW2] at hbx hrow hit2;rw [hbb] at hrow;have HW2:=Lib.hid hW2
         have HBX:=Lib.hid (Below.call hb1 hbx)
         have HIT2:=Lib.hid hit2
         have HIX:=Lib.hid (HIA.out.below HBX.out)
         have HJX:=Lib.hid (HJA.out.below HBX.out)
         have HP1W:=Lib.hid hok.1;have HP2W:=Lib.hid hok.2
         have q0:W2.cell? ⟨bb,0,none⟩=some (.int .i64 p1):=cell_of_row W2 bb 0 _ _ _ hrow
         have q1:W2.cell? ⟨bb,1,none⟩=some (.int .i64 p2):=cell_of_row W2 bb 1 _ _ _ hrow
         have HROK:=Lib.hid HR.out.ok
         obtain ⟨QB,hQB⟩:∃ x,decide (pgB st.c.page (st.ms p1) p2=pgB st2.c.page (st2.ms p1) p2)=x:=⟨_,rfl⟩
         have HQB:=Lib.hid hQB
         have HIE:Hid (IterG MP W2 hh.pb wq.heap.size E L'):=hit2
         clear hpL hpD hit1 hg1 hs1 hok hq2 hb1 hbx hrow hit2 hW2 HR hQB
         go_wp2_with (rw [HW2.out])
         first | rw [HW2.out] | skip

         refine' reg_free (G:=Kept) (pickF [eqV _,eqV _,eqV _,eqV _,eqV _,(fun v w5=>∃ a n c,v = .slice a n c∧RdAt .u8 w5 a n c (pgB st.c.page (st.ms p1) p2)),eqV _,eqV _,eqV _,eqV _,eqV _,(fun v w5=>∃ a n c,v = .slice a n c∧RdAt .u8 w5 a n c (pgB st2.c.page (st2.ms p1) p2)),eqV _,eqV _]) [68,69,70,71,72,73,74,75,76,77,78,79,80,81] [[],[],[1],[],[3],[0,2,4],[],[],[7],[],[9],[6,8,10],[5,11],[12]] [0,1,2,3,4,5,6,7,8,9,10,11,12,13] (by kernel_rfl) Kept.refl Kept.trans (pick_stays ⟨eS _,eS _,eS _,eS _,eS _,(fun _ _ _ p b=>by obtain ⟨a,n,c,e,h1⟩:=p;exact ⟨a,n,c,e,h1.below b⟩),eS _,eS _,eS _,eS _,eS _,(fun _ _ _ p b=>by obtain ⟨a,n,c,e,h1⟩:=p;exact ⟨a,n,c,e,h1.below b⟩),eS _,eS _,trivial⟩) 83 rfl (by kernel_rfl) (by kernel_rfl) rfl rfl ?r3obl ?r3fin
         case r3obl=>
          refine ⟨?r3o0,?r3o1,?r3o2,?r3o3,?r3o4,?r3o5,?r3o6,?r3o7,?r3o8,?r3o9,?r3o10,?r3o11,?r3o12,?r3o13,trivial⟩
          case r3o0 | r3o1 | r3o3 | r3o6 | r3o7 | r3o9=>
           intro w1 hG;refine t1o (by rfl) ?_;intro K hK;go_simp;refine hK _ _ ⟨rfl,Kept.refl _,?_⟩;show _=_;simp only [gv1];rfl
          case r3o2=>
           intro w1 hG;intro v1 h1;change _=_ at h1;subst h1;refine t1o (by rfl) ?_;intro K hK;simp only [gv2]
           have hcc:=cel (kept_0 hG) q0
           go_simp;refine hK _ _ ⟨rfl,Kept.refl _,?_⟩;show _=_;simp only [gv1];rfl
          case r3o4=>
           intro w1 hG;intro v3 h3;change _=_ at h3;subst h3;refine t1o (by rfl) ?_;intro K hK;simp only [gv2]
           have hcc:=cel (kept_0 hG) q1
           go_simp;refine hK _ _ ⟨rfl,Kept.refl _,?_⟩;show _=_;simp only [gv1];rfl
          case r3o5=>
           intro w1 hG;intro v0 h0;change _=_ at h0;subst h0;intro v2 h2;change _=_ at h2;subst h2;intro v4 h4;change _=_ at h4;subst h4;refine t1o (by rfl) ?_;intro K hK;simp only [gv2];go_simp
           refine Calls.mono (page_any (HIX.out.below (kept_0 hG)) p1 p2 HP1W.out HP2W.out) ?_
           rintro e w2 ⟨a9,n9,c9,rfl,hrd,_,hbx⟩
           refine hK _ _ ⟨rfl,hbx,?_⟩
           exact ⟨_,_,_,rfl,hrd⟩
          case r3o8=>
           intro w1 hG;intro v7 h7;change _=_ at h7;subst h7;refine t1o (by rfl) ?_;intro K hK;simp only [gv2]
           have hcc:=cel (kept_0 hG) q0
           go_simp;refine hK _ _ ⟨rfl,Kept.refl _,?_⟩;show _=_;simp only [gv1];rfl
          case r3o10=>
           intro w1 hG;intro v9 h9;change _=_ at h9;subst h9;refine t1o (by rfl) ?_;intro K hK;simp only [gv2]
           have hcc:=cel (kept_0 hG) q1
           go_simp;refine hK _ _ ⟨rfl,Kept.refl _,?_⟩;show _=_;simp only [gv1];rfl
          case r3o11=>
           intro w1 hG;intro v6 h6;change _=_ at h6;subst h6;intro v8 h8;change _=_ at h8;subst h8;intro v10 h10;change _=_ at h10;subst h10;refine t1o (by rfl) ?_;intro K hK;simp only [gv2];go_simp
           refine Calls.mono (page_any (HJX.out.below (kept_0 hG)) p1 p2 HP1W.out HP2W.out) ?_
           rintro e w2 ⟨a9,n9,c9,rfl,hrd,_,hbx⟩
           refine hK _ _ ⟨rfl,hbx,?_⟩
           exact ⟨_,_,_,rfl,hrd⟩
          case r3o12=>
           intro w1 hG;intro v5 h5
           obtain ⟨a5,n5,c5,rfl,h5⟩:=h5
           intro v11 h11
           obtain ⟨a11,n11,c11,rfl,h11⟩:=h11
           refine t1o (by rfl) ?_;intro K hK;simp only [gv2];go_simp
           refine Calls.mono (bytesEq_any a5 n5 c5 _ a11 n11 c11 _ w1 h5 h11) ?_
           rintro e w2 ⟨rfl,rfl⟩
           rw [HQB.out];refine hK _ _ ⟨rfl,Kept.refl _,?_⟩;show _=_;simp only [gv1];rfl
          case r3o13=>
           intro w1 hG;intro va ha;change _=_ at ha;subst ha;refine t1o (by rfl) ?_;intro K hK;simp only [gv2];go_simp;refine hK _ _ ⟨rfl,Kept.refl _,?_⟩;show _=_;simp only [gv1];rfl
         intro w1 hG;intro v0 h0;change _=_ at h0;subst h0;intro v1 h1;change _=_ at h1;subst h1;intro v2 h2;change _=_ at h2;subst h2;intro v3 h3;change _=_ at h3;subst h3;intro v4 h4;change _=_ at h4;subst h4;intro v5 h5
         obtain ⟨a5,n5,c5,rfl,h5⟩:=h5
         intro v6 h6;change _=_ at h6;subst h6;intro v7 h7;change _=_ at h7;subst h7;intro v8 h8;change _=_ at h8;subst h8;intro v9 h9;change _=_ at h9;subst h9;intro v10 h10;change _=_ at h10;subst h10;intro v11 h11
         obtain ⟨a11,n11,c11,rfl,h11⟩:=h11
         intro v12 h12;change _=_ at h12;subst h12;intro v13 h13;change _=_ at h13;subst h13
         simp only [Given,gv2]
         have hb15:=kept_0 hG
         have HB15:=Lib.hid (Below.call HBX.out hb15)
         have HIT5:Hid (IterG MP w1 hh.pb wq.heap.size E L'):=HIE.out.tn (Tn.of (Q:=fun _=>False) hb15) (fun h=>h) (fun h=>h)
         clear hG hb15 h5 h11 q0 q1
         cases QB with
         | false=>
          go_wp2
          go_ret
          refine ⟨false,rfl,⟨fun e=>(by cases e),fun e=>?_⟩,HBA.out.trans (HB15.out.mono HBA.out.size)⟩
          have h1:=HQB.out
          rw [decide_eq_false_iff_not] at h1
          refine absurd ?_ h1
          rcases HSX.out with ⟨_,e5⟩ | ⟨_,e5⟩
          ·have h3:=HXB.out
           rw [e5] at h3
           exact e.2.2.2.1 p1 _ h3
          ·have h3:=HXB.out
           rw [e5] at h3
           exact e.2.2.2.2 p1 _ h3
         | true=>
          have HR2:Hid (SmR wA.heap.size wq.heap.size hh.pb E st st2 wA w1 L' (X ++ [((p1,p2),v)])):=⟨HIT5.out,HEP.out,fun q hq=>by
           rcases List.mem_append.1 hq with hq | hq
           ·exact HROK.out q hq
           ·rw [List.mem_singleton] at hq
            rw [hq]
            exact of_decide_eq_true HQB.out,HB15.out⟩
          go_wp2_with fail
          go_roundw
          case rel=>exact ⟨_,_,HR2⟩
          case measure=>rw [HR2.out.it.left,HMS.out];exact HLN.out
      ·obtain rfl:k2=2:=by omega
       go_wp2
       go_ret
       have h1:=HPG.out
       have h2:=HPG2.out
       exact ⟨true,rfl,⟨fun _=>⟨h1.trans h2.symm,HPL.out.trans (HPL.out.symm.trans HPID.out),HRGS.out,HP1.out (by omega),HP2.out (by omega)⟩,fun _=>rfl⟩,HBA.out.trans (HB2.out.mono HBA.out.size)⟩
 ·have hne:(PG != PG2)=true:=by simpa using hpp
  have hne2:(PG == PG2)=false:=by simpa using hpp
  have HNE:=Lib.hid hpp;clear hpp c10 d10
  go_enter Tryz.func26,Tryz.ntmps26
  go_wp2_with fail;go_quiet (fail)
  go_wp2
  go_ret
  exact ⟨false,rfl,⟨fun e=>(by cases e),fun e=>by have h1:=e.1;rw [HPG.out,HPG2.out] at h1;exact absurd h1 HNE.out⟩,belowNp (Below.refl _ _) _⟩
end
end Go.Proofs.YtnbjodoajfkekaaGreat
