/- The document's machine: an operation done (store). The document's machine: an operation done (fork). The document's machine: an operation done. Rows held against each other: bytes.Equal, slices.Equal of ints and of regions. Regions that draw their order, some operations of which make blocks: these are apart. No program in sight. -/
import Derived.Test.YtoepnbfifjgpfaaGreatMu0
import Derived.Test.YtoepnbfifjgpfaaGreatMp6
import Derived.Test.YtoepnbfifjgpfaaGreatMp8
import Derived.Test.YtoepnbfifjgpfaaGreatMu20
import Derived.WalkKit
import Derived.ProofKit
import Derived.BigQuiet
import Derived.Deep.QuietTactic
import Derived.Lib.Hide
import Derived.RegionTactic
import Derived.Test.YtoepnbfifjgpfaaGreatMp7
import Derived.Test.YtoepnbfifjgpfaaGreatMu16
import Derived.Test.YtoepnbfifjgpfaaGreatMu19
import Derived.Test.YtoepnbfifjgpfaaGreatMu3
namespace Go.Proofs.YtoepnbfifjgpfaaGreat
set_option maxRecDepth 100000
open Go.RowKit
set_option linter.unusedSimpArgs false
theorem PrIn.blk {w:World} {No:Nat→Prop} {H:PrH} {R:List Rg} {L:List (Int × List Int)} (p:PrIn w No H R L) (hl:∀ x ∈ L,0 < x.2.length):∀ k,H.own L k→k < w.heap.size:=by
  rintro k (e | ⟨x,hx,e⟩)
  · obtain ⟨_,_,_,_,_,e1,_⟩:=p.row
    rw [e];exact (Array.getElem?_eq_some_iff.1 e1).1
  · have h1:=p.pg x hx
    obtain ⟨_,hh⟩:=h1.kind (Nat.lt_of_lt_of_le (hl x hx) h1.rd.cap)
    rw [e]
    exact (Array.getElem?_eq_some_iff.1 hh).1
theorem stQ_next {st : Mc} {q k : Int} {d : List Int} {j : Nat} {x : Int} (hx : d[j]? = some x) :
    { stQ st q k (d.take j) with rs:=upd (stQ st q k (d.take j)).rs q ((stQ st q k (d.take j)).rs q),ms:=upd (stQ st q k (d.take j)).ms q (stOne st.c.page ((stQ st q k (d.take j)).ms q) (k+j) x) }=stQ st q k (d.take (j+1)):=by
  have hj:=(List.getElem?_eq_some_iff.1 hx).1
  have e:storeL st.c.page (st.ms q) k (d.take (j+1))=stOne st.c.page (storeL st.c.page (st.ms q) k (d.take j)) (k+j) x:=by
    rw [take_snoc hx,storeL_append,List.length_take,Nat.min_eq_left (by omega)];rfl
  rw [upd_id,stQ_ms]
  unfold stQ
  simp only
  rw [upd_upd,e]
section
variable {No:Nat→Prop} {h:RmH} {st:Mc} {w:World}
set_option maxHeartbeats 4000000 in
theorem rdo_store (i : RmIn w No h st) (pid ad n pr : Int) (d : List Int) (a : Option Addr) (dn dc : Nat) (hp : (Lit.int .i64 pid).wf = true) (hk : (Lit.int .i64 ad).wf = true) (hn : (Lit.int .i64 n).wf = true) (hd : d.length = dn) (hdl : dn ≤ 9223372036854775807) (hhas : st.has pid = true) (hrd : RdAt .u8 w a dn dc d) (hdx : ∀ x, a = some x → 0 < dn → ¬ No x.block) (hk0 : 0 ≤ ad) (hk1 : ad + dn ≤ 268435456) (hmap : ∀ x, ad ≤ x → x < ad + dn → findB (st.rs pid) (x / st.c.page) = true) (hE : checkE st ⟨6, pid, ad, n, pr, d⟩ = 0) :
    Calls Tryz.prog 9 #[.pointer (some ⟨h.m,0,none⟩),.agg #[.int .i64 6,.int .i64 pid,.int .i64 ad,.int .i64 n,.int .i64 pr,.slice a dn dc]] w (RDoPost No h st ⟨0,0,[],[]⟩ (stQ st pid ad d) w):=by
  have s0:=rdos_start (orow:=#[.int .i64 6,.int .i64 pid,.int .i64 ad,.int .i64 n,.int .i64 pr,.slice a dn dc]) i
  have hck:=rcheck_any s0.mc ⟨6,pid,ad,n,pr,d⟩ a dn dc hp hk hn hd hdl
  have HI:=Lib.hid i;have HP:=Lib.hid hp;have HAD:=Lib.hid hk;have HN:=Lib.hid hn;have HD:=Lib.hid hd
  obtain ⟨o0,o1,o2,o3,o4,o5⟩:=cells6 s0.op
  have HS0:=Lib.hid s0;rw [hE] at hck;have HH:=Lib.hid hhas;have HRD:=Lib.hid hrd;have HDX:=Lib.hid hdx;have HA0:=Lib.hid hk0;have HA1:=Lib.hid hk1;have HMAP:=Lib.hid hmap
  skip
  clear hE hhas hrd hdx hk0 hk1 hmap;have HCK:=Lib.hid hck;clear hck s0 i hp hk hn hd 
  go_enter Tryz.func9,Tryz.ntmps9
  go_wp2_with fail
  refine HCK.out.mono ?_
  rintro e w2 ⟨rfl,hb2⟩
  have HS2:=Lib.hid (HS0.out.below hb2)
  replace o0:=cel hb2 o0;replace o1:=cel hb2 o1;replace o2:=cel hb2 o2;replace o3:=cel hb2 o3;replace o4:=cel hb2 o4;replace o5:=cel hb2 o5;clear hb2
  obtain ⟨_,_,_,_,_,c10⟩:=HS2.out.mc.cells
  obtain ⟨q,hq,hql,cp⟩:=HS2.out.mc.ptr HH.out
  subst hq
  have hq64:(q:Int) < (st.pr:Int):=by omega
  have hprl:(st.pr:Int)≤64:=by have:=HI.out.ok.prL;omega
  have HOK:Hid (∀ k,k≤dn→McOk (stQ st (q:Int) ad (d.take k))):=fun k hk=>by
    have hdl:=HD.out
    have:=ok_ms HI.out.ok HH.out (HI.out.ok.cn (q:Int)) (HI.out.ok.wi (q:Int)) (storeL_srt (page:=st.c.page) (d:=d.take k) (k:=ad) (HI.out.ok.srt (q:Int))) (storeL_pg HI.out.ok.cf.page.1 (HI.out.ok.srt (q:Int)) (HI.out.ok.pg (q:Int)) (fun y hy=>HRD.out.wf y (List.mem_of_mem_take hy)) (fun x h1 h2=>HMAP.out x h1 (by rw [List.length_take] at h2;omega)))
    rw [upd_id] at this
    exact this
  go_wp2_with fail;go_quiet (fail)
  have hbq:Below w2.heap.size w2 (w2.drewN nq):=belowN (Below.refl _ _) _
  have hst:RDoS No h st #[.int .i64 6,.int .i64 (q:Int),.int .i64 ad,.int .i64 n,.int .i64 pr,.slice a dn dc] w (fun k=>No k∨k=w.heap.size+1) h (stQ st (q:Int) ad (d.take 0)) (w2.drewN nq):=by
    rw [List.take_zero,stQ_nil]
    exact HS2.out.below hbq
  have HST:=Lib.hid hst;clear hst hbq c10 cp;go_wp2_with fail
  go_loopw [13] (fun i wr=>∃ k:Nat,k≤dn∧i = .int .i64 k∧Hid (∃ N3 h3,RDoS No h st #[.int .i64 6,.int .i64 (q:Int),.int .i64 ad,.int .i64 n,.int .i64 pr,.slice a dn dc] w N3 h3 (stQ st (q:Int) ad (d.take k)) wr∧(h3.pr (q:Int)).b=(h.pr (q:Int)).b)) (fun i _=>dn - (intOf i).toNat)
  case atStart=>exact ⟨0,by omega,rfl,_,_,HST.out,rfl⟩
  case round=>
    obtain ⟨k,hk,rfl,hh⟩:=hrel
    obtain ⟨N3,h3,s3,hb3⟩:=hh.out
    obtain ⟨o0,o1,o2,o3,o4,o5⟩:=cells6 s3.op
    have HO2:=Lib.hid o2;have HO5:=Lib.hid o5;have S3:=Lib.hid s3;have HB3:=Lib.hid hb3
    have ha0:=HA0.out
    have ha1:=HA1.out
    clear hh s3 hb3 o0 o1 o2 o3 o4
    by_cases hkN:k < dn
    · have hkn:(k:Int) < (dn:Int):=by omega
      obtain ⟨x,hx⟩:∃ x,d[k]?=some x:=⟨_,List.getElem?_eq_getElem (by rw [HD.out];exact hkN)⟩
      have hnx:nth d k=x:=by
        rw [nth_eq (by rw [HD.out];exact hkN)]
        exact (List.getElem?_eq_some_iff.1 hx).2
      have hrd3:RdAt .u8 wr a dn dc d:=HRD.out.tn S3.out.tn (fun y hy h0 hk=>HDX.out y hy h0 (HI.out.own_no _ hk))
      obtain ⟨bb,oo,ha,hcx⟩:=hrd3.cell k hkN
      rw [hnx] at hcx;subst ha;have HCX:=Lib.hid hcx
      have HWX:Hid ((Lit.int .u8 x).wf=true):=by show _=_;rw [← hnx];exact HRD.out.wfAt k hkN
      have HNX:=Lib.hid (stQ_next (st:=st) (q:=(q:Int)) (k:=ad) hx)
      have hcap:=hrd3.cap
      have hwr:IntKind.i64.wrap (ad+(k:Int))=ad+k:=by rw [IntKind.wrap_i64];omega
      have HWR:=Lib.hid hwr;clear hx hnx hrd3 hcx hwr;go_wp2_with fail
      obtain ⟨wB,hwB⟩:∃ y:World,y=wr:=⟨_,rfl⟩
      subst hwB
      refine' reg_order [eqV _,eqV _,eqV _,eqV _,eqV _,eqV _,eqV _,eqV _,eqV _,eqV _,eqV _,(fun _ w5=>∃ N3 h3,RDoS No h st #[.int .i64 6,.int .i64 (q:Int),.int .i64 ad,.int .i64 n,.int .i64 pr,.slice (some ⟨bb,oo,none⟩) dn dc] w N3 h3 (stQ st (q:Int) ad (d.take (k+1))) w5∧(h3.pr (q:Int)).b=(h.pr (q:Int)).b)] [(11,fun _ _=>True)] [(3,fun w5=>Below wB.heap.size wB w5),(7,fun w5=>Below wB.heap.size wB w5),(10,fun w5=>Below wB.heap.size wB w5),(11,fun w5=>Below wB.heap.size wB w5)] [167,168,169,170,171,172,173,174,175,176,177,178] [[],[],[],[2],[],[3,4],[],[6],[],[7,8],[9],[0,1,5,10]] [0,1,2,3,4,5,6,7,8,9,10,11] 12 (by kernel_rfl) ⟨eS _,eS _,eS _,eS _,eS _,eS _,eS _,eS _,eS _,eS _,eS _,fun _ _ _ p b=>by obtain ⟨N3,h3,s,e⟩:=p;exact ⟨N3,h3,s.below b,e⟩,trivial⟩ ⟨⟨.inl (eS _),.inl (eS _),.inl (eS _),.inl (eS _),.inl (eS _),.inl (eS _),.inl (eS _),.inl (eS _),.inl (eS _),.inl (eS _),.inl (eS _),.inr (.inr rfl),trivial⟩,trivial⟩ ⟨fun _ _ p b=>Below.call p b,fun _ _ p b=>Below.call p b,fun _ _ p b=>Below.call p b,fun _ _ p b=>Below.call p b,trivial⟩ ⟨⟨.inr (.inl (by kernel_rfl)),.inr (.inl (by kernel_rfl)),.inr (.inl (by kernel_rfl)),.inr (.inr rfl),trivial⟩,trivial⟩ ⟨(Below.refl wB.heap.size wB).drew,(Below.refl wB.heap.size wB).drew,(Below.refl wB.heap.size wB).drew,(Below.refl wB.heap.size wB).drew,trivial⟩ 216 rfl (by kernel_rfl) (by kernel_rfl) rfl rfl 12 rfl ?q1obl ?q1fin
      case q1obl=>
        refine ⟨?q1o0,?q1o1,?q1o2,?q1o3,?q1o4,?q1o5,?q1o6,?q1o7,?q1o8,?q1o9,?q1o10,?q1o11,trivial⟩
        case q1o0 | q1o1 | q1o2 | q1o4 | q1o6 | q1o8=>
         intro w1 hI;refine t2o (by rfl) ?_;intro K hK;go_simp;refine hK _ _ ⟨rfl,Kept.refl _,?_⟩;show _=_;simp only [gv1];rfl
        case q1o3=>
          intro w1 hI
          replace hI:(fun w5=>Below wB.heap.size wB w5) w1:=hI
          intro v2 h2;change _=_ at h2;subst v2;refine t2o (by rfl) ?_;intro K hK;simp only [gv2]
          have hc:=cel hI HO2.out
          go_simp;refine hK _ _ ⟨rfl,Kept.refl _,?_⟩;show _=_;simp only [gv1];rfl
        case q1o5=>
         intro w1 hI;intro va ha;change _=_ at ha;subst va;intro vb hb;change _=_ at hb;subst vb;refine t2o (by rfl) ?_;intro K hK;simp only [gv2];go_simp;refine hK _ _ ⟨rfl,Kept.refl _,?_⟩;show _=_;simp only [gv1];rfl
        case q1o7=>
          intro w1 hI
          replace hI:(fun w5=>Below wB.heap.size wB w5) w1:=hI
          intro v6 h6;change _=_ at h6;subst v6;refine t2o (by rfl) ?_;intro K hK;simp only [gv2]
          have hc:=cel hI HO5.out
          go_simp;refine hK _ _ ⟨rfl,Kept.refl _,?_⟩;show _=_;simp only [gv1];rfl
        case q1o9=>
         intro w1 hI;intro va ha;change _=_ at ha;subst va;intro vb hb;change _=_ at hb;subst vb;refine t2o (by rfl) ?_;intro K hK;simp only [gv2];go_simp;refine hK _ _ ⟨rfl,Kept.refl _,?_⟩;show _=_;simp only [gv1];rfl
        case q1o10=>
          intro w1 hI
          replace hI:(fun w5=>Below wB.heap.size wB w5) w1:=hI
          intro v9 h9;change _=_ at h9;subst v9;refine t2o (by rfl) ?_;intro K hK;simp only [gv2]
          have hc:=cel hI HCX.out
          go_simp;refine hK _ _ ⟨rfl,Kept.refl _,?_⟩;show _=_;simp only [gv1];rfl
        case q1o11=>
          intro w1 hI
          replace hI:(fun w5=>Below wB.heap.size wB w5) w1:=hI
          intro v0 h0;change _=_ at h0;subst v0;intro v1 h1;change _=_ at h1;subst v1;intro v5 h5;change _=_ at h5;subst v5;intro v10 h10;change _=_ at h10;subst v10;refine t2o (by rfl) ?_;intro K hK;simp only [gv2];go_simp
          have s1:=S3.out.below hI
          have hhq:(stQ st (q:Int) ad (d.take k)).has (q:Int)=true:=HH.out
          have p1:=s1.mc.pr (q:Int) hhq
          obtain ⟨c4,_⟩:=s1.mc.cells
          have hcs:=rstore_any h3.m c4 s1.mc.no.2.2.1 s1.mc.lt p1 (s1.mc.ok.srt (q:Int)) (by have:=s1.mc.ok.few (q:Int);omega) (fun z hz=>(s1.mc.ok.pg (q:Int) z hz).1) s1.mc.ok.cf.page (ad+k) x ⟨by omega,by omega⟩ HWX.out
          rw [HB3.out,s1.hm] at hcs;rw [HWR.out]
          refine Calls.mono hcs ?_
          rintro e w9 ⟨rfl,H',hp',hb',ht',ho'⟩
          refine hK _ _ ⟨rfl,trivial,?_⟩
          have hmk:=s1.mc.proc (H':=H') (R':=(stQ st (q:Int) ad (d.take k)).rs (q:Int)) (L':=stOne st.c.page ((stQ st (q:Int) ad (d.take k)).ms (q:Int)) (ad+k) x) hhq ht' hp' (by rw [HNX.out];exact HOK.out (k+1) (by omega)) (hb'.trans HB3.out.symm) ho' (fun j hj=>.inl hj) (fun j hj=>hj.elim .inl (fun e=>(ho' j e).imp ((s1.mc.pr (q:Int) hhq).no j) id)) (fun j hj=>hj.elim (fun e=>Nat.lt_of_lt_of_le (s1.mc.lt j e) ht'.size) (fun e=>hp'.blk (fun z hz=>?_) j e))
          · have hmo:=RmIn.proc_own (h:=h3) (st:=stQ st (q:Int) ad (d.take k)) (R':=(stQ st (q:Int) ad (d.take k)).rs (q:Int)) (L':=stOne st.c.page ((stQ st (q:Int) ad (d.take k)).ms (q:Int)) (ad+k) x) (w:=w1) hhq ho'
            rw [HNX.out] at hmk hmo
            exact ⟨_,_,s1.turn hmk (ht'.mono (fun _ _ hk=>.inr (.inr ⟨_,hhq,hk⟩))) (fun j hj=>.inl hj) (fun j hj=>hj.elim .inl (fun e=>(ho' j e).imp ((s1.mc.pr (q:Int) hhq).no j) id)) rfl hmo,by show (upd h3.pr (q:Int) H' (q:Int)).b=_;rw [upd_same];exact hb'⟩
          · have hz2:=(HOK.out (k+1) (by omega)).pg (q:Int) z (by rw [← HNX.out];show z ∈ upd _ _ _ _;rw [upd_same];exact hz)
            have h1:(z.2.length:Int)=st.c.page:=hz2.1.1
            have h2:=HI.out.ok.cf.page
            omega
      intro w5 hI;intro v0 h0;change _=_ at h0;subst v0;intro v1 h1;change _=_ at h1;subst v1;intro v2 h2;change _=_ at h2;subst v2;intro v3 h3;change _=_ at h3;subst v3;intro v4 h4;change _=_ at h4;subst v4;intro v5 h5;change _=_ at h5;subst v5;intro v6 h6;change _=_ at h6;subst v6;intro v7 h7;change _=_ at h7;subst v7;intro v8 h8;change _=_ at h8;subst v8
      intro v9 h9;change _=_ at h9;subst v9;intro v10 h10;change _=_ at h10;subst v10;intro v11 h11
      obtain ⟨N5,h5,s5,e5⟩:=h11
      simp only [Given,gv2]
      have S5:=Lib.hid s5;clear s5 hI;go_wp2_with fail
      go_roundw
      case rel=>exact ⟨k+1,by omega,by go_num,_,_,S5.out,e5⟩
      case measure=>simp [intOf] <;> omega
    · obtain rfl:k=dn:=by omega
      have htk:d.take k=d:=List.take_of_length_le (by rw [HD.out];omega)
      rw [htk] at S3;clear htk
      obtain ⟨y0,y1,y2,y3⟩:=cells4a S3.out.res
      have hf:∀ i,wr.frozen? ⟨w.heap.size+1,i,none⟩=false:=fun i=>frozen_of_row wr (w.heap.size+1) i _ _ S3.out.res
      have HF:=Lib.hid (S3.out.fin (B:=wr.heap.size) S3.out.lt (⟨0,0,[],[]⟩:Ans) (dv:=.slice none 0 0) (pv:=.slice none 0 0) (Owns.nil _ _ _ _) (Owns.nil _ _ _ _))
      skip
      go_wp2
      obtain ⟨r0,r1,r2,r3⟩:=cells4a HF.out.2.2.2.2
      unfold sets sets sets sets sets at r0 r1 r2 r3
      refine bodyPost_ret (v:=.agg #[.int .i64 (Ans.err (⟨0,0,[],[]⟩:Ans)),.int .i64 (Ans.pid (⟨0,0,[],[]⟩:Ans)),.slice none 0 0,.slice none 0 0]) (by simp [results,Tryz.results9,go_sem,r0,r1,r2,r3]) rfl ?_
      skip
      exact ⟨_,_,_,rfl,HF.out.1,HF.out.2.1,HF.out.2.2.1,HF.out.2.2.2.1,S3.out.hm,fun k hk=>(S3.out.own k hk).imp id (fun h=>by omega)⟩
end
section
variable {No:Nat→Prop} {h:RmH} {st:Mc} {w:World}
set_option maxHeartbeats 4000000 in
theorem rdo_fork (i : RmIn w No h st) (pid ad n pr : Int) (d : List Int) (a : Option Addr) (dn dc : Nat) (hp : (Lit.int .i64 pid).wf = true) (hk : (Lit.int .i64 ad).wf = true) (hn : (Lit.int .i64 n).wf = true) (hd : d.length = dn) (hdl : dn ≤ 9223372036854775807) (k0 : Nat) (hf : firstF st.v st.pr = k0) (hk0 : k0 < st.pr) (hhas : st.has pid = true) (hE : checkE st ⟨7, pid, ad, n, pr, d⟩ = 0) :
    Calls Tryz.prog 9 #[.pointer (some ⟨h.m,0,none⟩),.agg #[.int .i64 7,.int .i64 pid,.int .i64 ad,.int .i64 n,.int .i64 pr,.slice a dn dc]] w (RDoPost No h st ⟨0,(k0:Int),[],[]⟩ ({ st with v:=st.v ||| qbit k0,rs:=upd st.rs (k0:Int) (st.rs pid),ms:=upd st.ms (k0:Int) (st.ms pid) }) w):=by
  have s0:=rdos_start (orow:=#[.int .i64 7,.int .i64 pid,.int .i64 ad,.int .i64 n,.int .i64 pr,.slice a dn dc]) i
  have hck:=rcheck_any s0.mc ⟨7,pid,ad,n,pr,d⟩ a dn dc hp hk hn hd hdl
  have HI:=Lib.hid i;have HP:=Lib.hid hp;have HAD:=Lib.hid hk;have HN:=Lib.hid hn;have HD:=Lib.hid hd
  obtain ⟨o0,o1,o2,o3,o4,o5⟩:=cells6 s0.op
  have HS0:=Lib.hid s0;rw [hE] at hck;have HK0:=Lib.hid hk0;have HFI:=Lib.hid hf;have HH:=Lib.hid hhas
  skip
  clear hE hk0 hf hhas;have HCK:=Lib.hid hck;clear hck s0 i hp hk hn hd 
  go_enter Tryz.func9,Tryz.ntmps9
  go_wp2_with fail
  refine HCK.out.mono ?_
  rintro e w2 ⟨rfl,hb2⟩
  have HS2:=Lib.hid (HS0.out.below hb2)
  replace o0:=cel hb2 o0;replace o1:=cel hb2 o1;replace o2:=cel hb2 o2;replace o3:=cel hb2 o3;replace o4:=cel hb2 o4;replace o5:=cel hb2 o5;clear hb2
  obtain ⟨_,_,_,_,c9,c10⟩:=HS2.out.mc.cells
  obtain ⟨q,hq,hql,cp⟩:=HS2.out.mc.ptr HH.out
  subst hq
  have hq64:(q:Int) < (st.pr:Int):=by omega
  have hprl:(st.pr:Int)≤64:=by have:=HI.out.ok.prL;omega
  go_wp2_with fail;go_quiet (fail)
  have hbq:Below w2.heap.size w2 (w2.drewN nq):=belowN (Below.refl _ _) _
  replace o0:=cel hbq o0;replace o1:=cel hbq o1;replace o2:=cel hbq o2;replace o3:=cel hbq o3;replace o4:=cel hbq o4;replace o5:=cel hbq o5
  have hs3:=HS2.out.below hbq
  replace c9:=cel hbq c9
  obtain ⟨w3,hw3⟩:∃ y:World,w2.drewN nq=y:=⟨_,rfl⟩
  rw [hw3] at hs3 o0 o1 o2 o3 o4 o5 c9 ⊢;have HS3:=Lib.hid hs3;clear hs3 hbq hw3 c10 cp
  obtain ⟨zc,zs,hset⟩:=HS3.out.mc.set
  have HT:=Lib.hid (crtake_yes h.s h.sl st.pr k0 st.v w3 hset HI.out.ok.prL.2 HFI.out HK0.out)
  clear hset;go_wp2_with fail
  refine HT.out.mono ?_
  rintro e w4 ⟨rfl,hs4,hg4⟩
  have hno:st.has (k0:Int)=false:=first_no HI.out.ok HFI.out HK0.out
  have t4:Tn (fun k=>k=h.sl) w3 w4:=(Tn.refl _ w3).put hg4 (.inl rfl)
  have p4:=(HS3.out.mc.pr (q:Int) HH.out).tn t4 (fun k e=>by rw [e];exact ⟨HS3.out.mc.no.1,(HS3.out.mc.ne.2 _ HH.out).1⟩)
  have hlen:=HI.out.ok.few (q:Int)
  have hrl:(st.rs (q:Int)).length≤1000:=by have h1:=(HI.out.ok.cn (q:Int)).few;have h2:=HI.out.ok.cf.regions;omega
  have hpl:∀ x ∈ st.ms (q:Int),0 < x.2.length∧x.2.length≤4096:=fun x hx=>by have h1:=(HI.out.ok.pg (q:Int) x hx).1.1;have h2:=HI.out.ok.cf.page;omega
  have HP4:=Lib.hid p4;have HS4:=Lib.hid hs4;have HG4:=Lib.hid hg4;have HNO:=Lib.hid hno;have HLEN:=Lib.hid hlen;have HRL:=Lib.hid hrl;have HPL:=Lib.hid hpl
  have hml:h.m ≠ h.sl:=fun e=>HS3.out.mc.no.2.2.1 (by rw [e];exact HS3.out.mc.no.1)
  have HC10:=Lib.hid ((World.cell?_of_block (a:=⟨h.m,10,none⟩) (t4.block h.m (Array.getElem?_eq_some_iff.1 HS3.out.mc.row).1 hml)).trans HS3.out.mc.cells.2.2.2.2.2)
  have hok:McOk { st with v:=st.v ||| qbit k0,rs:=upd st.rs (k0:Int) (st.rs (q:Int)),ms:=upd st.ms (k0:Int) (st.ms (q:Int)) }:=ok_ms (ok_taken HI.out.ok HK0.out) (by rw [taken_has HI.out.ok HK0.out];simp) (HI.out.ok.cn (q:Int)) (HI.out.ok.wi (q:Int)) (HI.out.ok.srt (q:Int)) (HI.out.ok.pg (q:Int))
  have HOK:=Lib.hid hok
  have hk0p:(k0:Int) < (st.pr:Int):=by have:=HK0.out;omega
  clear hs4 hg4 hno t4 p4 hlen hrl hpl hok hml c9;go_wp2_with fail
  refine' reg_kill [(8,6)] [eqV _,eqV _,eqV _,eqV _,eqV _,eqV _,(fun v w5=>∃ H':PrH,v=Value.pointer (some ⟨H'.b,0,none⟩)∧PrIn w5 (fun k=>k < w4.heap.size∨H'.own (st.ms (q:Int)) k) H' (st.rs (q:Int)) (st.ms (q:Int))∧∀ k,H'.own (st.ms (q:Int)) k→w4.heap.size≤k∧k < w5.heap.size),eqV _,(fun _ w5=>∃ H':PrH,RmIn w5 (fun k=>(No k∨k=w.heap.size+1)∨H'.own (st.ms (q:Int)) k) { h with pr:=upd h.pr (k0:Int) H' } { st with v:=st.v ||| qbit k0,rs:=upd st.rs (k0:Int) (st.rs (q:Int)),ms:=upd st.ms (k0:Int) (st.ms (q:Int)) }∧Tn (fun k=>k=h.sl∨k=h.p) w3 w5∧∀ k,H'.own (st.ms (q:Int)) k→w4.heap.size≤k)] [(8,fun _ _=>True)] [(3,fun w5=>Below w4.heap.size w4 w5),(6,fun w5=>Below w4.heap.size w4 w5),(8,fun w5=>Below w4.heap.size w4 w5)] [189,190,191,192,193,194,195,196,224] [[],[0],[1],[2],[],[],[5],[3,4],[6,7]] [0,1,2,3,4,5,6,7,8] 9 (by kernel_rfl) (by kernel_rfl) ⟨eS _,eS _,eS _,eS _,eS _,eS _,fun _ _ _ p b=>by obtain ⟨H',e,h1,h2⟩:=p;exact ⟨H',e,h1.tn (Tn.of (Q:=fun _=>False) b) (fun _ h=>h.elim),fun k hk=>⟨(h2 k hk).1,Nat.lt_of_lt_of_le (h2 k hk).2 b.size⟩⟩,eS _,fun _ _ _ p b=>by obtain ⟨H',h1,h2,h3⟩:=p;exact ⟨H',h1.below b,h2.call b,h3⟩,trivial⟩ ⟨⟨.inl (eS _),.inl (eS _),.inl (eS _),.inl (eS _),.inl (eS _),.inl (eS _),.inr (.inr (.inr (by kernel_rfl))),.inl (eS _),.inr (.inr (.inl rfl)),trivial⟩,trivial⟩ ⟨fun _ _ p b=>Below.call p b,fun _ _ p b=>Below.call p b,fun _ _ p b=>Below.call p b,trivial⟩ ⟨⟨.inr (.inl (by kernel_rfl)),.inr (.inl (by kernel_rfl)),.inr (.inr rfl),trivial⟩,trivial⟩ ⟨(Below.refl w4.heap.size w4).drew,(Below.refl w4.heap.size w4).drew,(Below.refl w4.heap.size w4).drew,trivial⟩ 216 rfl (by kernel_rfl) (by kernel_rfl) rfl rfl 9 rfl ?q1obl ?q1fin
  case q1obl=>
    refine ⟨?q1o0,?q1o1,?q1o2,?q1o3,?q1o4,?q1o5,?q1o6,?q1o7,?q1o8,trivial⟩
    case q1o0 | q1o4 | q1o5=>
     intro w1 hI;refine t2o (by rfl) ?_;intro K hK;go_simp;refine hK _ _ ⟨rfl,Kept.refl _,?_⟩;show _=_;simp only [gv1];rfl
    case q1o1 | q1o2=>
     intro w1 hI;intro va ha;change _=_ at ha;subst va;refine t2o (by rfl) ?_;intro K hK;simp only [gv2];go_simp;refine hK _ _ ⟨rfl,Kept.refl _,?_⟩;show _=_;simp only [gv1];rfl
    case q1o3=>
      intro w1 hI
      replace hI:(fun w5=>Below w4.heap.size w4 w5) w1:=hI
      intro v2 h2;change _=_ at h2;subst v2;refine t2o (by rfl) ?_;intro K hK;simp only [gv2]
      have hc:=cel hI HC10.out
      go_simp;refine hK _ _ ⟨rfl,Kept.refl _,?_⟩;show _=_;simp only [gv1];rfl
    case q1o6=>
      intro w1 hI
      replace hI:(fun w5=>Below w4.heap.size w4 w5) w1:=hI
      intro v5 h5;change _=_ at h5;subst v5;refine t2o (by rfl) ?_;intro K hK;simp only [gv2];go_simp
      refine Calls.mono (rtwin_any (HP4.out.tn (Tn.of (Q:=fun _=>False) hI) (fun _ h=>h.elim)) (HI.out.ok.srt (q:Int)) (by have:=HLEN.out;omega) HRL.out HPL.out) ?_
      rintro e w9 ⟨H',rfl,hp9,ho9,hb9⟩
      refine hK _ _ ⟨rfl,hb9,?_⟩
      exact ⟨H',rfl,hp9.less (fun k hk=>hk.imp (fun e=>Nat.lt_of_lt_of_le e hI.size) id) (fun k hk=>.inr hk),fun k hk=>⟨Nat.le_trans hI.size (ho9 k hk).1,(ho9 k hk).2⟩⟩
    case q1o7=>
     intro w1 hI;intro va ha;change _=_ at ha;subst va;intro vb hb;change _=_ at hb;subst vb;refine t2o (by rfl) ?_;intro K hK;simp only [gv2];go_simp;refine hK _ _ ⟨rfl,Kept.refl _,?_⟩;show _=_;simp only [gv1];rfl
    case q1o8=>
      intro w1 hI
      replace hI:(fun w5=>Below w4.heap.size w4 w5) w1:=hI
      intro v6 h6
      obtain ⟨H6,rfl,p6,o6⟩:=h6
      intro v7 h7;change _=_ at h7;subst v7;refine t2o (by rfl) ?_;intro K hK;simp only [gv2]
      obtain ⟨_,cp,cf,hmk,htn⟩:=HS3.out.mc.makes HK0.out HNO.out HS4.out HG4.out hI p6 o6 HOK.out
      go_simp
      refine hK _ _ ⟨rfl,trivial,?_⟩
      exact ⟨H6,hmk,htn,fun k hk=>(o6 k hk).1⟩
  intro w5 hI;intro v0 h0;replace h0:=h0 (by kernel_rfl);change _=_ at h0;subst v0;intro v1 h1;replace h1:=h1 (by kernel_rfl);change _=_ at h1;subst v1;intro v2 h2;replace h2:=h2 (by kernel_rfl);change _=_ at h2;subst v2;intro v3 h3;replace h3:=h3 (by kernel_rfl);change _=_ at h3;subst v3;intro v4 h4;replace h4:=h4 (by kernel_rfl);change _=_ at h4;subst v4;intro v5 h5
  replace h5:=h5 (by kernel_rfl);change _=_ at h5;subst v5;intro v6 _;intro v7 h7;replace h7:=h7 (by kernel_rfl);change _=_ at h7;subst v7;intro v8 h8;replace h8:=h8 (by kernel_rfl)
  obtain ⟨H8,m8,t8,n8⟩:=h8
  simp only [Given,gv2]
  have hmo:=fun k=>RmIn.makes_own (h:=h) (st:=st) (R:=(st.rs (q:Int))) (L:=(st.ms (q:Int))) (H':=H8) (v':=st.v ||| qbit k0) (B:=w4.heap.size) (taken_has HI.out.ok HK0.out) n8 k
  have hgs:=HG4.out.size
  have HS5:=Lib.hid (HS3.out.turn m8 (t8.mono (fun k _ e=>e.elim .inl (fun e=>.inr (.inl e)))) (fun k hk=>.inl hk) (fun k hk=>hk.imp id (fun e=>by have:=n8 k e;omega)) rfl (fun k hk=>(hmo k hk).imp id (fun e=>by omega)))
  clear hmo hgs m8 t8 n8 hI
  obtain ⟨y0,y1,y2,y3⟩:=cells4a HS5.out.res
  have hf:∀ i,w5.frozen? ⟨w.heap.size+1,i,none⟩=false:=fun i=>frozen_of_row w5 (w.heap.size+1) i _ _ HS5.out.res
  have HF:=Lib.hid (HS5.out.fin (B:=w5.heap.size) HS5.out.lt (⟨0,(k0:Int),[],[]⟩:Ans) (dv:=.slice none 0 0) (pv:=.slice none 0 0) (Owns.nil _ _ _ _) (Owns.nil _ _ _ _))
  skip
  go_wp2
  obtain ⟨r0,r1,r2,r3⟩:=cells4a HF.out.2.2.2.2
  unfold sets sets sets sets sets at r0 r1 r2 r3
  refine bodyPost_ret (v:=.agg #[.int .i64 (Ans.err (⟨0,(k0:Int),[],[]⟩:Ans)),.int .i64 (Ans.pid (⟨0,(k0:Int),[],[]⟩:Ans)),.slice none 0 0,.slice none 0 0]) (by simp [results,Tryz.results9,go_sem,r0,r1,r2,r3]) rfl ?_
  skip
  exact ⟨_,_,_,rfl,HF.out.1,HF.out.2.1,HF.out.2.2.1,HF.out.2.2.2.1,HS5.out.hm,fun k hk=>(HS5.out.own k hk).imp id (fun h=>by omega)⟩
end
section
variable {No:Nat→Prop} {h:RmH} {st:Mc} {w:World}
theorem rdo_any (i : RmIn w No h st) (o : Opn) (a : Option Addr) (dn dc : Nat) (hp : (Lit.int .i64 o.pid).wf = true) (hk : (Lit.int .i64 o.at_).wf = true) (hn : (Lit.int .i64 o.n).wf = true) (hrd : RdAt .u8 w a dn dc o.data) (hdx : ∀ x, a = some x → 0 < dn → ¬ No x.block) :
    Calls Tryz.prog 9 #[.pointer (some ⟨h.m,0,none⟩),.agg #[.int .i64 o.kind,.int .i64 o.pid,.int .i64 o.at_,.int .i64 o.n,.int .i64 o.prot,.slice a dn dc]] w (RDoPost No h st (ansM st o) (stepM st o) w):=by
  have hd:=hrd.len
  have hdl:dn≤9223372036854775807:=by
    have h1:=hrd.cap
    have h2:=hrd.max
    unfold maxLen at h2
    omega
  obtain ⟨kd,pid,ad,n,pr,d⟩:=o
  dsimp only at hp hk hn hd hrd ⊢
  have hpr:=i.ok.prI
  have hcf:=i.ok.cf
  by_cases hE:checkE st ⟨kd,pid,ad,n,pr,d⟩=0
  · have hA : ∀ A : Ans, (if kd = 1 ∨ kd = 7 then ⟨0, st.first, [], []⟩ else if kd = 5 then ⟨0, 0, loadL st.c.page (st.ms pid) ad n.toNat, []⟩ else if kd = 9 then ⟨0, 0, [], pidsK st.v st.pr⟩ else ⟨0, 0, [], []⟩) = A → ansM st ⟨kd, pid, ad, n, pr, d⟩ = A := fun A hA => by
      unfold ansM
      rw [if_neg (by simpa using hE)]
      exact hA
    have hS:∀ S:Mc,(if kd=1 then { st with v:=tkV st.v st.pr } else if kd=2∨kd=3∨kd=4 then { st with rs:=upd st.rs pid (turnL (st.rs pid) ⟨kd,pid,ad,n,pr,d⟩),ms:=upd st.ms pid ((st.ms pid).filter fun x=>findB (turnL (st.rs pid) ⟨kd,pid,ad,n,pr,d⟩) x.1) } else if kd=6 then { st with ms:=upd st.ms pid (storeL st.c.page (st.ms pid) ad d) } else if kd=7 then { st with v:=tkV st.v st.pr,rs:=upd st.rs st.first (st.rs pid),ms:=upd st.ms st.first (st.ms pid) } else if kd=8 then { st with v:=frV st.v st.pr pid,rs:=upd st.rs pid [],ms:=upd st.ms pid [] } else st)=S→stepM st ⟨kd,pid,ad,n,pr,d⟩=S:=fun S hS=>by
      unfold stepM
      rw [if_neg (by simpa using hE)]
      exact hS
    obtain ⟨_,hc⟩:=check_zero hE
    dsimp only at hc
    rcases hc with hk9 | ⟨hk1,hf⟩ | ⟨hh,hc⟩
    · subst hk9
      rw [hA _ rfl,hS _ rfl]
      exact rdo_list i pid ad n pr d a dn dc hp hk hn hd hdl hE
    · subst hk1
      have h1:=full_first i.ok hf
      obtain ⟨e1,e2⟩:=first_take h1
      rw [hA ⟨0,_,[],[]⟩ (by simp;exact e2),hS { st with v:=_ } (by simp;exact e1)]
      exact rdo_make i pid ad n pr d a dn dc hp hk hn hd hdl _ rfl h1 hE
    · rcases hc with ⟨hk5,hb⟩ | ⟨hk6,hb⟩ | ⟨hk7,hf⟩ | hk8 | ⟨hkt,hte⟩
      · subst hk5
        obtain ⟨a1,a2,a3,a4,_⟩:=bytes_zero hb
        have:=all_bd hcf
        rw [hA _ rfl,hS _ rfl]
        exact rdo_load i pid ad n pr d a dn dc hp hk hn hd hdl n.toNat (by omega) (by omega) a3 (by omega) hh hE
      · subst hk6
        rw [hd] at hb
        obtain ⟨a1,a2,a3,a4,_⟩:=bytes_zero hb
        have:=all_bd hcf
        rw [hA _ rfl,hS _ rfl]
        exact rdo_store i pid ad n pr d a dn dc hp hk hn hd hdl hh hrd hdx a3 (by omega) (bytes_mapped hcf (i.ok.cn pid) hb) hE
      · subst hk7
        have h1:=full_first i.ok hf
        obtain ⟨e1,e2⟩:=first_take h1
        rw [hA ⟨0,_,[],[]⟩ (by simp;exact e2),hS { st with v:=_,rs:=_,ms:=_ } (by simp [e1,e2];exact ⟨rfl,rfl,rfl⟩)]
        exact rdo_fork i pid ad n pr d a dn dc hp hk hn hd hdl _ rfl h1 hh hE
      · subst hk8
        have h0:0≤pid:=hasB_pos hh
        have e1:frV st.v st.pr pid=st.v &&& ~~~ qbit pid.toNat:=by
          unfold frV
          rw [if_pos]
          unfold Mc.has at hh
          rw [hpr]
          exact hh
        have e2:pid=(pid.toNat:Int):=by omega
        rw [hA _ rfl,hS { st with v:=st.v &&& ~~~ qbit pid.toNat,rs:=upd st.rs (pid.toNat:Int) [],ms:=upd st.ms (pid.toNat:Int) [] } (by simp [e1,← e2])]
        exact rdo_exit i pid ad n pr d a dn dc hp hk hn hd hdl pid.toNat e2 hh hE
      · have e1:¬ (kd=1∨kd=7)∧kd ≠ 5∧kd ≠ 9∧kd ≠ 1:=by omega
        rw [hA ⟨0,0,[],[]⟩ (by rw [if_neg e1.1,if_neg e1.2.1,if_neg e1.2.2.1]),hS { st with rs:=upd st.rs pid (turnL (st.rs pid) ⟨kd,pid,ad,n,pr,d⟩),ms:=upd st.ms pid ((st.ms pid).filter fun x=>findB (turnL (st.rs pid) ⟨kd,pid,ad,n,pr,d⟩) x.1) } (by rw [if_neg e1.2.2.2,if_pos hkt])]
        have hpg:=fun x hx=>(i.ok.pg pid x hx).2
        rcases hkt with rfl | rfl | rfl
        · rw [turn_keeps (o:=⟨2,pid,ad,n,pr,d⟩) hcf (i.ok.cn pid) (i.ok.wi pid) hte (.inl rfl) hpg]
          exact rdo_turn2 i pid ad n pr d a dn dc hp hk hn hd hdl hh hte hE
        · rw [turn_drops (o:=⟨3,pid,ad,n,pr,d⟩) hcf (i.ok.cn pid) (i.ok.wi pid) hte rfl hpg]
          exact rdo_turn3 i pid ad n pr d a dn dc hp hk hn hd hdl hh hte hE
        · rw [turn_keeps (o:=⟨4,pid,ad,n,pr,d⟩) hcf (i.ok.cn pid) (i.ok.wi pid) hte (.inr rfl) hpg]
          exact rdo_turn4 i pid ad n pr d a dn dc hp hk hn hd hdl hh hte hE
  · have e1:ansM st ⟨kd,pid,ad,n,pr,d⟩=⟨checkE st ⟨kd,pid,ad,n,pr,d⟩,0,[],[]⟩:=by unfold ansM;rw [if_pos hE]
    have e2:stepM st ⟨kd,pid,ad,n,pr,d⟩=st:=by unfold stepM;rw [if_pos hE]
    rw [e1,e2]
    exact rdo_err i kd pid ad n pr d a dn dc hp hk hn hd hdl _ rfl hE
end
theorem str_iff {a b:List Int} (ha:Bytes a) (hb:Bytes b):((strOfNums a).toList == (strOfNums b).toList)=decide (a=b):=by
  by_cases h:a=b
  · subst h;simp
  · rw [decide_eq_false h,beq_eq_false_iff_ne]
    exact fun e=>h (str_inj ha hb e)
theorem bytesEq_any (a : Option Addr) (n c : Nat) (x : List Int) (a' : Option Addr) (n' c' : Nat) (y : List Int) (w : World) (h : RdAt .u8 w a n c x) (h' : RdAt .u8 w a' n' c' y) :
    Calls Tryz.prog 59 #[.slice a n c,.slice a' n' c'] w fun e w'=>e = .returned (.bool (decide (x=y)))∧w=w':=by
  have k1:=conv_rd (P:=Tryz.prog) u8T s8 su h
  have k2:=conv_rd (P:=Tryz.prog) u8T s8 su h'
  have HI:=Lib.hid (str_iff h.bytes h'.bytes)
  go_enter Tryz.func59,Tryz.ntmps59
  go_wp2
  go_ret
  exact ⟨by rw [HI.out];rfl,rfl⟩
instance:DecidableEq Rg:=fun a b=>decidable_of_iff (a.lo=b.lo∧a.hi=b.hi∧a.p=b.p) ⟨fun h=>by cases a;cases b;simp only at h;rw [h.1,h.2.1,h.2.2],fun h=>by rw [h];exact ⟨rfl,rfl,rfl⟩⟩
set_option maxHeartbeats 1000000 in
theorem equalI_any (a : Option Addr) (n c : Nat) (l : List Int) (a' : Option Addr) (n' c' : Nat) (l' : List Int) (w : World) (h : RdAt .i64 w a n c l) (h' : RdAt .i64 w a' n' c' l') (hm : n ≤ 1000000 ∧ n' ≤ 1000000) :
    Calls Tryz.prog 60 #[.slice a n c,.slice a' n' c'] w fun e w'=>e = .returned (.bool (decide (l=l')))∧Below w.heap.size w w':=by
  have H:=Lib.hid h;have H':=Lib.hid h'
  have HLN:Hid (l.length=n):=h.len
  have HLN':Hid (l'.length=n'):=h'.len
  obtain ⟨hm1,hm2⟩:=hm
  clear h h'
  by_cases hn:n=n'
  · subst hn
    obtain ⟨D,hD⟩:∃ D:Bool,decide (l=l')=D:=⟨_,rfl⟩
    rw [hD];have HD:=Lib.hid hD;clear hD
    go_enter Tryz.func60,Tryz.ntmps60
    go_wp2_with fail
    go_loopw [13] (fun i wr=>∃ (k:Nat),k≤n∧i = .int .i64 k∧Hid (Below w.heap.size w wr)∧Hid (l.take k=l'.take k)) (fun i _=>n - (intOf i).toNat)
    case atStart=>exact ⟨0,by omega,rfl,Below.refl _ _,rfl⟩
    case round=>
      obtain ⟨k,hk,rfl,HB,HT⟩:=hrel
      by_cases hkn:k < n
      · obtain ⟨b,o,rfl,hc⟩:=(H.out.below HB.out).cell k hkn
        obtain ⟨b',o',rfl,hc'⟩:=(H'.out.below HB.out).cell k hkn
        obtain ⟨x,hx⟩:∃ x,nth l k=x:=⟨_,rfl⟩
        obtain ⟨y,hy⟩:∃ y,nth l' k=y:=⟨_,rfl⟩
        rw [hx] at hc;rw [hy] at hc';have HX:=Lib.hid hx;have HY:=Lib.hid hy;clear hx hy
        by_cases hxy:x=y
        · subst hxy
          have HT2:Hid (l.take (k+1)=l'.take (k+1)):=by
            show _=_
            have h1:=HLN.out
            have h2:=HLN'.out
            rw [List.take_add_one,List.take_add_one,HT.out,List.getElem?_eq_getElem (by omega),List.getElem?_eq_getElem (by omega),← nth_eq (by omega),← nth_eq (by omega),HX.out,HY.out]
          go_wp2_with fail;go_quiet (fail);go_wp2_with fail
          go_roundw
          case rel=>exact ⟨k+1,by omega,by go_num,⟨HB.out.os,HB.out.tape,HB.out.output,HB.out.size,HB.out.block⟩,HT2⟩
          case measure=>simp [intOf] <;> omega
        · have hxy2:(x == y)=false:=by simpa using hxy
          have hxy3:(x != y)=true:=by simpa using hxy
          have HF:Hid (D=false):=by
            show _=_;rw [← HD.out]
            refine decide_eq_false (fun e=>hxy ?_)
            rw [← HX.out,← HY.out,e]
          clear hxy;go_wp2_with fail;go_quiet (fail);go_wp2_with fail
          go_ret
          rw [HF.out]
          exact ⟨rfl,⟨HB.out.os,HB.out.tape,HB.out.output,HB.out.size,HB.out.block⟩⟩
      · obtain rfl:k=n:=by omega
        have HF:Hid (D=true):=by
          show _=_;rw [← HD.out]
          refine decide_eq_true ?_
          have h1:=HT.out
          rwa [List.take_of_length_le (by rw [HLN.out];omega),List.take_of_length_le (by rw [HLN'.out];omega)] at h1
        go_wp2_with fail
        go_ret
        rw [HF.out]
        exact ⟨rfl,HB.out⟩
  · have hD:decide (l=l')=false:=decide_eq_false (fun e=>hn (by rw [← HLN.out,← HLN'.out,e]))
    have hn2:(n == n')=false:=by simpa using hn
    have hn3:((n:Int) == (n':Int))=false:=by simp;omega
    have hn4:((n:Int) != (n':Int))=true:=by simp;omega
    rw [hD];clear hD hn
    go_enter Tryz.func60,Tryz.ntmps60
    go_wp2_with fail
    go_ret
    exact ⟨rfl,Below.refl _ _⟩
/-- The block that a value leads to. -/
def blkOf:Value→Option Nat
  | .map (some b)=>some b
  | .pointer (some a)=>some a.block
  | .slice (some a) _ _=>some a.block
  | _=>none
def ApartV (v v':Value):Prop:=∀ b,blkOf v=some b→blkOf v' ≠ some b
section
variable (P:Program) (G:World→World→Prop) (F:Nat→Value→World→Prop) (D:List Tmp) (ds:List Deferred) (Nw:List Nat)
def TurnP (l:List Oper) (w:World) (o:Oper) (i:Nat) (t:Array Value):Prop:=
  (Region.wanted o (yielded l.toArray t)=true→Oper.wp P o ⟨t,ds⟩ w (fun a' w'=>a'.defers=ds∧G w w'∧F i (a'.tmps.getD (D.getD i 0) undef) w'∧(Nw.contains i=true→∀ b,blkOf (a'.tmps.getD (D.getD i 0) undef)=some b→w.heap.size≤b)) (fun _ _ _=>False)) ∧
  (Region.wanted o (yielded l.toArray t)=false→F i undef w)
def PairOk (B:List Nat) (t:Array Value):Prop:=∀ i j,i ∈ B→j ∈ B→i ≠ j→Nw.contains i=true→Nw.contains j=true→ApartV (t.getD (D.getD i 0) undef) (t.getD (D.getD j 0) undef)
def OblP (l:List Oper) (w0:World) (t0:Array Value) (o:Oper) (i:Nat) (B:List Nat):Prop:=
  ∀ w,G w0 w→Given F D w t0 B fun t=>PairOk D Nw B t→TurnP P G F D ds Nw l w o i t
def OblsP (l:List Oper) (w0:World) (t0:Array Value):List Oper→Nat→List (List Nat)→Prop
  | o :: r,i,B :: Bs=>OblP P G F D ds Nw l w0 t0 o i B∧OblsP l w0 t0 r (i+1) Bs
  | _,_,_=>True
end
section
variable {P:Program} {G:World→World→Prop} {F:Nat→Value→World→Prop} {D:List Tmp} {ds:List Deferred} {Nw:List Nat} {l:List Oper} {w0:World} {t0:Array Value}
theorem OblsP.get {Bs:List (List Nat)}:∀ {r:List Oper} {k:Nat} {B:List (List Nat)},OblsP P G F D ds Nw l w0 t0 r k B→B.length=r.length→∀ i o,r[i]?=some o→OblP P G F D ds Nw l w0 t0 o (k+i) (B.getD i [])
  | [],_,_,_,_,i,o,h=>by simp at h
  | o :: r,k,[],h,hl,_,_,_=>by simp at hl
  | o :: r,k,B :: Bs',h,hl,0,o',h'=>by
    simp at h'
    subst h'
    exact h.1
  | o :: r,k,B :: Bs',h,hl,i+1,o',h'=>by
    have:=OblsP.get (Bs:=Bs) h.2 (by simpa using hl) i o' (by simpa using h')
    rw [show k+(i+1)=k+1+i from by omega]
    simpa using this
structure MidP (l:List Oper) (G:World→World→Prop) (F:Nat→Value→World→Prop) (D:List Tmp) (Nw:List Nat) (n:Nat) (w0:World) (t0:Array Value) (x:Nat→Value) (listed:Array Bool) (t:Array Value) (w:World):Prop extends Mid l G F D n w0 t0 x listed t w where
  pair:∀ i j,i < n→j < n→i ≠ j→Nw.contains i=true→Nw.contains j=true→listed.getD i true=true→listed.getD j true=true→ApartV (x i) (x j)
/-- The same, where some operations make new blocks: these are apart. -/
theorem reg_midP {Q : Exit → Act → World → Prop} {Bs : List (List Nat)} (hR : ∀ a, G a a) (hG : ∀ a b c, G a b → G b c → G a c) (hF : ∀ i v w w', F i v w → G w w' → F i v w')
    (hok:slotsOk l D Bs t0.size=true) (hap:slotsApart D l.length=true) (hB:Bs.length=l.length) (hlt0:∀ j v w,Nw.contains j=true→F j v w→∀ b,blkOf v=some b→b < w.heap.size) (ho:OblsP P G F D ds Nw l w0 t0 l 0 Bs)
    (hQ:∀ w,G w0 w→Given F D w t0 (List.range l.length) fun t=>(∀ i j,i < l.length→j < l.length→i ≠ j→Nw.contains i=true→Nw.contains j=true→ApartV (t.getD (D.getD i 0) undef) (t.getD (D.getD j 0) undef))→Q .normal ⟨t,ds⟩ w) :
    ∀ (fuel:Nat) (x:Nat→Value) (listed:Array Bool) (t:Array Value) (w:World),MidP l G F D Nw l.length w0 t0 x listed t w→listed.toList.count false=fuel→wpAny P .any l.toArray Q fuel listed ⟨t,ds⟩ w:=by
  have hapart:∀ i j,i < l.length→j < l.length→D.getD i 0=D.getD j 0→i=j:=by
    intro i j hi hj he
    unfold slotsApart at hap
    have:=List.all_eq_true.1 (List.all_eq_true.1 hap i (by simpa using hi)) j (by simpa using hj)
    rw [Bool.or_eq_true] at this
    rcases this with h | h
    · simpa using h
    · rw [he] at h;simp at h
  have hslot : ∀ i o, l[i]? = some o → o.dst = some (D.getD i 0) ∧ D.getD i 0 < t0.size ∧ (∀ j ∈ Bs.getD i [], j ∈ beforeOf o) ∧ (∀ j ∈ beforeOf o, j < i) ∧ (∀ cs b, o.op ≠ .select cs b) ∧
      ∀ d ∈ o.looksAt l.toArray,∀ j oj,l[j]?=some oj→D.getD j 0=d→j ∈ Bs.getD i []∨i ∈ beforeOf oj:=by
    intro i o h
    have hi:i < l.length:=(List.getElem?_eq_some_iff.1 h).1
    unfold slotsOk at hok
    have h1:=List.all_eq_true.1 hok i (by simpa using hi)
    rw [h] at h1
    simp only [Bool.and_eq_true] at h1
    obtain ⟨⟨⟨⟨⟨a,b⟩,c⟩,d⟩,e⟩,f⟩:=h1
    refine ⟨by simpa using a,by simpa using b,fun j hj=>by simpa using List.all_eq_true.1 c j hj,fun j hj=>by simpa using List.all_eq_true.1 d j hj,fun cs b' he=>?_,fun d' hd' j oj hj hjd=>?_⟩
    · rw [he] at e;simp at e
    · have:=List.all_eq_true.1 (List.all_eq_true.1 f d' hd') j (by simpa using (List.getElem?_eq_some_iff.1 hj).1)
      rw [hj] at this
      simp only [Bool.or_eq_true,bne_iff_ne,ne_eq,hjd,not_true_eq_false,false_or,List.contains_iff_mem] at this
      exact this
  have hfin:∀ (x:Nat→Value) (listed:Array Bool) (t:Array Value) (w:World),MidP l G F D Nw l.length w0 t0 x listed t w→(∀ j,j < l.length→listed.getD j true=true)→Q .normal ⟨t,ds⟩ w:=by
    intro x listed t w hm hall
    have h1:=(hQ w hm.went).use x (fun j hj=>(hm.here j (by simpa using hj) (hall j (by simpa using hj))).2)
    have h2:(List.range l.length).foldl (fun t j=>t.setIfInBounds (D.getD j 0) (x j)) t0=t:=by
      apply Array.ext_getElem?
      intro d
      by_cases hd:∃ j,j < l.length∧D.getD j 0=d
      · obtain ⟨j,hj,rfl⟩:=hd
        obtain ⟨o,hoj⟩:∃ o,l[j]?=some o:=⟨_,List.getElem?_eq_getElem hj⟩
        rw [fold_at x _ _ (by simpa using hj) (fun k hk e=>hapart k j (by simpa using hk) hj e) (hslot j o hoj).2.1,(hm.here j hj (hall j hj)).1]
      · rw [fold_other x _ _ (fun j hj e=>hd ⟨j,by simpa using hj,e⟩),hm.other d (fun j hj _ e=>hd ⟨j,hj,e⟩)]
    rw [h2] at h1
    refine h1 (fun i j hi hj hne h3 h4=>?_)
    have e1:=(hm.here i hi (hall i hi)).1
    have e2:=(hm.here j hj (hall j hj)).1
    simp only [Array.getD_eq_getD_getElem?,e1,e2,Option.getD_some]
    exact hm.pair i j hi hj hne h3 h4 (hall i hi) (hall j hj)
  have hnil:∀ (x:Nat→Value) (listed:Array Bool) (t:Array Value) (w:World),MidP l G F D Nw l.length w0 t0 x listed t w→Region.ready .any l.toArray listed=[]→∀ j,j < l.length→listed.getD j true=true:=by
    intro x listed t w hm hr j
    induction j using Nat.strongRecOn with
    | _ j ih=>
      intro hj
      cases hu:listed.getD j true with
      | true=>rfl
      | false=>
        obtain ⟨o,hoj⟩:∃ o,l[j]?=some o:=⟨_,List.getElem?_eq_getElem hj⟩
        obtain ⟨_,_,_,hlt,_,_⟩:=hslot j o hoj
        have:=ready_of hoj hu (fun k hk=>by
          have hkj:=hlt k hk
          rw [getD_any false true (by rw [hm.size];omega)]
          exact ih k hkj (by omega))
        rw [hr] at this
        cases this
  intro fuel
  induction fuel with
  | zero=>
    intro x listed t w hm hc
    have hall:∀ j,j < l.length→listed.getD j true=true:=by
      intro j hj
      have hjs:j < listed.size:=by rw [hm.size];exact hj
      have h0:false ∉ listed.toList:=List.count_eq_zero.1 hc
      cases hu:listed.getD j true with
      | true=>rfl
      | false=>
        have:listed.toList[j]=false:=by simpa [Array.getD,hjs] using hu
        exact absurd (this ▸ List.getElem_mem _) h0
    refine ⟨?_,hfin x listed t w hm hall⟩
    cases hr:Region.ready .any l.toArray listed with
    | nil=>rfl
    | cons i r=>
      obtain ⟨o,hoi,hu,_⟩:=ready_mem (l:=l) (listed:=listed) (i:=i) (by rw [hr];simp)
      rw [hall i (List.getElem?_eq_some_iff.1 hoi).1] at hu
      cases hu
  | succ fuel ih=>
    intro x listed t w hm hc
    refine ⟨fun hr=>hfin x listed t w hm (hnil x listed t w hm hr),fun i hi=>?_⟩
    obtain ⟨o,hoi,hu,hbk⟩:=ready_mem hi
    have hil:i < l.length:=(List.getElem?_eq_some_iff.1 hoi).1
    have his:i < listed.size:=by rw [hm.size];exact hil
    obtain ⟨hdst,hlt,hbf,hbl,hsel,hlook⟩:=hslot i o hoi
    have hbk':∀ k ∈ beforeOf o,k < l.length∧listed.getD k true=true:=fun k hk=>by
      have:=hbl k hk
      exact ⟨by omega,by rw [getD_any true false (by rw [hm.size];omega)];exact hbk k hk⟩
    have hob:=ho.get (Bs:=Bs) hB i o hoi
    rw [Nat.zero_add] at hob
    have h1:=(hob w hm.went).use x (fun j hj=>(hm.here j (hbk' j (hbf j hj)).1 (hbk' j (hbf j hj)).2).2) (fun a b ha hb hne na nb=>by
      have la:=hbk' a (hbf a ha)
      have lb:=hbk' b (hbf b hb)
      have ea:=fold_at (D:=D) (k:=a) x (Bs.getD i []) t0 ha (fun k hk e=>hapart k a (hbk' k (hbf k hk)).1 la.1 e) (by
        obtain ⟨o',ho'⟩:∃ o',l[a]?=some o':=⟨_,List.getElem?_eq_getElem la.1⟩
        exact (hslot a o' ho').2.1)
      have eb:=fold_at (D:=D) (k:=b) x (Bs.getD i []) t0 hb (fun k hk e=>hapart k b (hbk' k (hbf k hk)).1 lb.1 e) (by
        obtain ⟨o',ho'⟩:∃ o',l[b]?=some o':=⟨_,List.getElem?_eq_getElem lb.1⟩
        exact (hslot b o' ho').2.1)
      simp only [Array.getD_eq_getD_getElem?,ea,eb,Option.getD_some]
      exact hm.pair a b la.1 lb.1 hne na nb la.2 lb.2)
    have hsame:∀ d ∈ o.looksAt l.toArray,t[d]?=((Bs.getD i []).foldl (fun t j=>t.setIfInBounds (D.getD j 0) (x j)) t0)[d]?:=by
      intro d hd
      by_cases hx:∃ j,j < l.length∧D.getD j 0=d∧j ∈ Bs.getD i []
      · obtain ⟨j,hj,rfl,hjb⟩:=hx
        obtain ⟨oj,hoj⟩:∃ o,l[j]?=some o:=⟨_,List.getElem?_eq_getElem hj⟩
        rw [(hm.here j hj (hbk' j (hbf j hjb)).2).1,fold_at x _ _ hjb (fun k hk e=>hapart k j (hbk' k (hbf k hk)).1 hj e) (hslot j oj hoj).2.1]
      · rw [fold_other x _ _ (fun j hj e=>hx ⟨j,(hbk' j (hbf j hj)).1,e,hj⟩)]
        refine hm.other d fun j hj hjl e=>?_
        obtain ⟨oj,hoj⟩:∃ o,l[j]?=some o:=⟨_,List.getElem?_eq_getElem hj⟩
        rcases hlook d hd j oj hoj e with h | h
        · exact hx ⟨j,hj,e,h⟩
        · have:=hm.shut j oj hoj hjl i h
          rw [hu] at this
          cases this
    -- what follows when the operation has yielded v
    have hnext:∀ v w',G w w'→F i v w'→(Nw.contains i=true→∀ b,blkOf v=some b→w.heap.size≤b)→wpAny P .any l.toArray Q fuel (listed.setIfInBounds i true) ⟨t.setIfInBounds (D.getD i 0) v,ds⟩ w':=by
      intro v w' hg hf hnu
      refine ih (fun j=>if j=i then v else x j) _ _ _ ⟨⟨by simp [hm.size],hG _ _ _ hm.went hg,by simp [hm.tsize],fun j hj hl=>?_,fun d hd=>?_,fun j oj hoj hl k hk=>?_⟩,?_⟩ (by have:=count_set his hu;omega)
      · rw [getD_set his] at hl
        by_cases hji:i=j
        · subst hji
          rw [Array.getElem?_setIfInBounds_self,if_pos (by rw [hm.tsize];exact hlt),if_pos rfl]
          exact ⟨rfl,hf⟩
        · rw [if_neg hji] at hl
          obtain ⟨h2,h3⟩:=hm.here j hj hl
          rw [Array.getElem?_setIfInBounds_ne (fun e=>hji (hapart i j hil hj e)),if_neg (fun e=>hji e.symm)]
          exact ⟨h2,hF j _ _ _ h3 hg⟩
      · have hdi:D.getD i 0 ≠ d:=hd i hil (by rw [getD_set his,if_pos rfl])
        rw [Array.getElem?_setIfInBounds_ne hdi]
        exact hm.other d fun j hj hl=>hd j hj (by rw [getD_set his];split <;> simp [hl])
      · rw [getD_set his] at hl ⊢
        by_cases hki:i=k
        · rw [if_pos hki]
        · rw [if_neg hki]
          by_cases hji:i=j
          · subst hji
            obtain rfl:o=oj:=by rw [hoi] at hoj;exact Option.some.inj hoj
            exact (hbk' k hk).2
          · rw [if_neg hji] at hl
            exact hm.shut j oj hoj hl k hk
      · intro j k hj hk hne hnj hnk hlj hlk
        rw [getD_set his] at hlj hlk
        by_cases hji:j=i
        · have hki:¬ k=i:=fun e=>hne (hji.trans e.symm)
          rw [if_pos hji,if_neg hki];rw [if_neg (fun e=>hki e.symm)] at hlk;intro b hb hb2
          have q1:=hnu (by rw [← hji];exact hnj) b hb
          have q2:=hlt0 k _ _ hnk (hm.here k hk hlk).2 b hb2
          omega
        · rw [if_neg (fun e=>hji e.symm)] at hlj
          rw [if_neg hji]
          by_cases hki:k=i
          · rw [if_pos hki]
            intro b hb hb2
            have q1:=hnu (by rw [← hki];exact hnk) b hb2
            have q2:=hlt0 j _ _ hnj (hm.here j hj hlj).2 b hb
            omega
          · rw [if_neg hki]
            rw [if_neg (fun e=>hki e.symm)] at hlk
            exact hm.pair j k hj hk hne hnj hnk hlj hlk
    have hw:=wanted_same (o:=o) hsame
    unfold wpOp
    rw [show l.toArray[i]?=some o by simpa using hoi]
    show if Region.wanted o (yielded l.toArray t)=true then _ else _
    rw [hw]
    split
    · rename_i hwt
      replace h1:=h1.1 hwt
      refine .inl ?_
      exact wp_same (R:=fun v w'=>G w w'∧F i v w'∧(Nw.contains i=true→∀ b,blkOf v=some b→w.heap.size≤b)) hdst (by rw [fold_size];exact hlt) (exec_same hsel hsame) h1 (fun v w' hr=>hnext v w' hr.1 hr.2.1 hr.2.2)
    · rename_i hwt
      replace h1:=h1.2 (by simpa using hwt);rw [hdst]
      exact hnext undef w (hR w) h1 (fun _ b hb=>by cases hb)

theorem reg_pair {Q : Exit → Act → World → Prop} {id : Nat} {w : World} (F : Nat → Value → World → Prop) (D : List Tmp) (Bs : List (List Nat)) (Ns : List Nat) (hm : P.follows .mixedOrders = true) (hR : ∀ a, G a a) (hG : ∀ a b c, G a b → G b c → G a c) (hF : ∀ i v w w', F i v w → G w w' → F i v w')
    (m:Nat) (hsz:t0.size=m) (hok:slotsOk l D Bs m=true) (hap:slotsApart D l.length=true) (hB:Bs.length=l.length) (hN:List.range l.length=Ns) (hlt0:∀ j v w,Nw.contains j=true→F j v w→∀ b,blkOf v=some b→b < w.heap.size) (ho:OblsP P G F D ds Nw l w.drew t0 l 0 Bs)
    (hQ:∀ w',G w.drew w'→Given F D w' t0 Ns fun t=>(∀ i j,i < l.length→j < l.length→i ≠ j→Nw.contains i=true→Nw.contains j=true→ApartV (t.getD (D.getD i 0) undef) (t.getD (D.getD j 0) undef))→Q .normal ⟨t,ds⟩ w'):(Code.region id l.toArray true).wp P Q ⟨t0,ds⟩ w:=by
  subst hsz;subst hN
  refine wp_region_any hm (reg_midP hR hG hF hok hap hB hlt0 ho hQ _ (fun _=>undef) _ _ _ ⟨⟨by simp,hR _,rfl,fun j hj hl=>?_,fun d _=>rfl,fun j oj hoj hl=>?_⟩,fun i j hi hj _ _ _ hl=>?_⟩ (by simp))
  · simp [Array.getD,hj] at hl
  · simp [Array.getD,(List.getElem?_eq_some_iff.1 hoj).1] at hl
  · simp [Array.getD,hi] at hl
theorem turnP_on {o : Oper} {i : Nat} {t : Array Value} {w : World} (hn : Nw.contains i = false) (hc : Region.wanted o (yielded l.toArray t) = true)
    (h:∀ K:Act→World→Prop,(∀ a' w',(a'.defers=ds∧G w w'∧F i (a'.tmps.getD (D.getD i 0) undef) w')→K a' w')→Oper.wp P o ⟨t,ds⟩ w K (fun _ _ _=>False)) :
    TurnP P G F D ds Nw l w o i t:=⟨fun _=>h _ (fun _ _ h=>⟨h.1,h.2.1,h.2.2,fun e=>by rw [hn] at e;cases e⟩),fun h'=>by rw [hc] at h';cases h'⟩
theorem turnP_new {o : Oper} {i : Nat} {t : Array Value} {w : World} (hc : Region.wanted o (yielded l.toArray t) = true)
    (h:∀ K:Act→World→Prop,(∀ a' w',(a'.defers=ds∧G w w'∧F i (a'.tmps.getD (D.getD i 0) undef) w'∧∀ b,blkOf (a'.tmps.getD (D.getD i 0) undef)=some b→w.heap.size≤b)→K a' w')→Oper.wp P o ⟨t,ds⟩ w K (fun _ _ _=>False)) :
    TurnP P G F D ds Nw l w o i t:=⟨fun _=>h _ (fun _ _ h=>⟨h.1,h.2.1,h.2.2.1,fun _=>h.2.2.2⟩),fun h'=>by rw [hc] at h';cases h'⟩
/-- Each operation's way tells that its block is there. -/
def LtAll (F:Nat→Value→World→Prop):List Nat→Prop
  | []=>True
  | j :: r=>(∀ v w,F j v w→∀ b,blkOf v=some b→b < w.heap.size)∧LtAll F r
theorem LtAll.all:∀ {Nw:List Nat},LtAll F Nw→∀ j v w,Nw.contains j=true→F j v w→∀ b,blkOf v=some b→b < w.heap.size
  | [],_,j,_,_,h,_,_,_=>by simp at h
  | k :: r,hl,j,v,w,h,hf,b,hb=>by
    rw [List.contains_cons,Bool.or_eq_true] at h
    rcases h with h | h
    · obtain rfl:j=k:=by simpa using h
      exact hl.1 v w hf b hb
    · exact hl.2.all j v w h hf b hb
end
end Go.Proofs.YtoepnbfifjgpfaaGreat
