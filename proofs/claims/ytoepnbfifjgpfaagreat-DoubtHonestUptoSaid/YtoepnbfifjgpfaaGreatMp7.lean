/- The document's machine: an operation done (exit). The document's machine: an operation done (map, protect). The document's machine: an operation done (unmap). -/
import Derived.Test.YtoepnbfifjgpfaaGreatMu0
import Derived.Test.YtoepnbfifjgpfaaGreatMp6
import Derived.WalkKit
import Derived.ProofKit
import Derived.BigQuiet
import Derived.Deep.QuietTactic
import Derived.Lib.Hide
import Derived.RegionTactic
import Derived.Test.YtoepnbfifjgpfaaGreatMp3
import Derived.Test.YtoepnbfifjgpfaaGreatMu23
import Derived.Test.YtoepnbfifjgpfaaGreatMp5
namespace Go.Proofs.YtoepnbfifjgpfaaGreat
set_option maxRecDepth 100000
open Go.RowKit
set_option linter.unusedSimpArgs false
section
variable {No:Nat→Prop} {h:RmH} {st:Mc} {w:World}
set_option maxHeartbeats 4000000 in
theorem rdo_exit (i:RmIn w No h st) (pid ad n pr:Int) (d:List Int) (a:Option Addr) (dn dc:Nat) (hp:(Lit.int .i64 pid).wf=true) (hk:(Lit.int .i64 ad).wf=true) (hn:(Lit.int .i64 n).wf=true) (hd:d.length=dn) (hdl:dn≤9223372036854775807) (k0:Nat) (hk0:pid=(k0:Int)) (hhas:st.has pid=true) (hE:checkE st ⟨8,pid,ad,n,pr,d⟩=0) :
  Calls Tryz.prog 9 #[.pointer (some ⟨h.m,0,none⟩),.agg #[.int .i64 8,.int .i64 pid,.int .i64 ad,.int .i64 n,.int .i64 pr,.slice a dn dc]] w (RDoPost No h st ⟨0,0,[],[]⟩ ({ st with v:=st.v &&& ~~~ qbit k0,rs:=upd st.rs (k0:Int) [],ms:=upd st.ms (k0:Int) [] }) w):=by
 have s0:=rdos_start (orow:=#[.int .i64 8,.int .i64 pid,.int .i64 ad,.int .i64 n,.int .i64 pr,.slice a dn dc]) i
 have hck:=rcheck_any s0.mc ⟨8,pid,ad,n,pr,d⟩ a dn dc hp hk hn hd hdl
 have HI:=Lib.hid i;have HP:=Lib.hid hp;have HAD:=Lib.hid hk;have HN:=Lib.hid hn;have HD:=Lib.hid hd
 obtain ⟨o0,o1,o2,o3,o4,o5⟩:=cells6 s0.op
 have HS0:=Lib.hid s0;rw [hE] at hck;have HH:=Lib.hid hhas
 skip
 subst hk0;clear hE hhas;have HCK:=Lib.hid hck;clear hck s0 i hp hk hn hd 
 go_enter Tryz.func9,Tryz.ntmps9
 go_wp2_with fail
 refine HCK.out.mono ?_
 rintro e w2 ⟨rfl,hb2⟩
 have HS2:=Lib.hid (HS0.out.below hb2)
 replace o0:=cel hb2 o0;replace o1:=cel hb2 o1;replace o2:=cel hb2 o2;replace o3:=cel hb2 o3;replace o4:=cel hb2 o4;replace o5:=cel hb2 o5;clear hb2
 obtain ⟨q,hq,hql,cp⟩:=HS2.out.mc.ptr HH.out
 obtain rfl:k0=q:=by omega
 obtain ⟨_,_,_,_,c9,c10⟩:=HS2.out.mc.cells
 have hq64:(k0:Int) < (st.pr:Int):=by omega
 have hprl:(st.pr:Int)≤64:=by have:=HI.out.ok.prL;omega
 obtain ⟨zc,zs,hset⟩:=HS2.out.mc.set
 have HSET:=Lib.hid hset
 have hhb:hasB st.pr st.v k0=true:=by
  have h1:=HH.out
  unfold Mc.has at h1
  rw [HI.out.ok.prI]
  exact h1
 have HHB:=Lib.hid hhb
 have hno:=HS2.out.mc.no
 have hne:h.s ≠ h.p:=fun e=>hno.2.2.2 (by rw [e];exact hno.2.1)
 have hml:h.m ≠ h.sl∧h.m ≠ h.p:=⟨fun e=>hno.2.2.1 (by rw [e];exact hno.1),fun e=>hno.2.2.1 (by rw [e];exact hno.2.1)⟩
 have hopl:w.heap.size ≠ h.sl∧w.heap.size ≠ h.p:=⟨fun e=>by have:=HI.out.lt _ HI.out.no.1;omega,fun e=>by have:=HI.out.lt _ HI.out.no.2.1;omega⟩
 have C9:=Lib.hid c9;have C10:=Lib.hid c10;have O1:=Lib.hid o1;have CP:=Lib.hid cp;clear hset hhb hno hq;go_wp2_with fail;go_quiet (fail)
 have hbq:Below w2.heap.size w2 (w2.drewN nq):=belowN (Below.refl _ _) _
 have HBQ:=Lib.hid hbq;go_wp2_with fail
 obtain ⟨wA,hwA⟩:∃ y:World,w2.drewN nq=y:=⟨_,rfl⟩
 rw [hwA] at HBQ hbq ⊢
 have hA1:Below w2.heap.size w2 wA.drew:=HBQ.out.drew
 clear hwA hbq
 refine' reg_order [eqV _,eqV _,eqV _,eqV _,eqV _,eqV _,(fun _ w5=>RSetC w5 h.s h.sl st.pr zc zs (st.v &&& ~~~ qbit k0))] [(6,fun w5 w6=>w5.grownBy w6 (some h.sl))] [(3,fun w5=>Below w2.heap.size w2 w5),(5,fun w5=>Below w2.heap.size w2 w5),(6,fun w5=>Below w2.heap.size w2 w5),(7,fun w5=>Tn (fun k=>k=h.sl) w2 w5)] [201,202,203,204,205,206,207] [[],[0],[1],[2],[],[4],[3,5]] [0,1,2,3,4,5,6] 7 (by kernel_rfl) ⟨eS _,eS _,eS _,eS _,eS _,eS _,fun _ _ _ p b=>RSetC.below p b,trivial⟩ ⟨⟨.inl (eS _),.inl (eS _),.inl (eS _),.inl (eS _),.inl (eS _),.inl (eS _),.inr (.inr rfl),trivial⟩,trivial⟩ ⟨fun _ _ p b=>Below.call p b,fun _ _ p b=>Below.call p b,fun _ _ p b=>Below.call p b,fun _ _ p b=>Tn.call p b,trivial⟩ ⟨⟨.inr (.inl (by kernel_rfl)),.inr (.inl (by kernel_rfl)),.inr (.inr rfl),.inl (fun _ _ p g=>Tn.put p g (.inl rfl)),trivial⟩,trivial⟩ ⟨hA1,hA1,hA1,(Tn.of hA1),trivial⟩ 216 rfl (by kernel_rfl) (by kernel_rfl) rfl rfl 7 rfl ?q1obl ?q1fin
 case q1obl=>
  refine ⟨?q1o0,?q1o1,?q1o2,?q1o3,?q1o4,?q1o5,?q1o6,trivial⟩
  case q1o0 | q1o4=>
   intro w1 hI;refine t2o (by rfl) ?_;intro K hK;go_simp;refine hK _ _ ⟨rfl,Kept.refl _,?_⟩;show _=_;simp only [gv1];rfl
  case q1o1 | q1o2=>
   intro w1 hI;intro va ha;change _=_ at ha;subst va;refine t2o (by rfl) ?_;intro K hK;simp only [gv2];go_simp;refine hK _ _ ⟨rfl,Kept.refl _,?_⟩;show _=_;simp only [gv1];rfl
  case q1o3=>
   intro w1 hI
   replace hI:(fun w5=>Below w2.heap.size w2 w5) w1:=hI
   intro v2 h2;change _=_ at h2;subst v2;refine t2o (by rfl) ?_;intro K hK;simp only [gv2]
   have hc:=cel hI C9.out
   go_simp;refine hK _ _ ⟨rfl,Kept.refl _,?_⟩;show _=_;simp only [gv1];rfl
  case q1o5=>
   intro w1 hI
   replace hI:(fun w5=>Below w2.heap.size w2 w5) w1:=hI
   intro v4 h4;change _=_ at h4;subst v4;refine t2o (by rfl) ?_;intro K hK;simp only [gv2]
   have hc:=cel hI O1.out
   go_simp;refine hK _ _ ⟨rfl,Kept.refl _,?_⟩;show _=_;simp only [gv1];rfl
  case q1o6=>
   intro w1 hI
   replace hI:(fun w5=>Below w2.heap.size w2 w5) w1:=hI
   intro v3 h3;change _=_ at h3;subst v3;intro v5 h5;change _=_ at h5;subst v5;refine t2o (by rfl) ?_;intro K hK;simp only [gv2];go_simp
   refine Calls.mono (crfree_yes h.s h.sl st.pr st.v k0 w1 (HSET.out.below hI) HI.out.ok.prL.2 HHB.out) ?_
   rintro e w9 ⟨rfl,hs9,hg9⟩
   refine hK _ _ ⟨rfl,hg9,?_⟩
   exact hs9
 intro w3 hI
 replace hI:(fun w5=>Tn (fun k=>k=h.sl) w2 w5) w3:=hI
 intro v0 h0;change _=_ at h0;subst v0;intro v1 h1;change _=_ at h1;subst v1;intro v2 h2;change _=_ at h2;subst v2;intro v3 h3;change _=_ at h3;subst v3;intro v4 h4;change _=_ at h4;subst v4;intro v5 h5;change _=_ at h5;subst v5;intro v6 h6
 simp only [Given,gv2]
 have ht3:Tn (fun k=>k=h.sl) w2 w3:=hI
 have HT3:=Lib.hid ht3
 have hmlt:h.m < w2.heap.size:=(Array.getElem?_eq_some_iff.1 HS2.out.mc.row).1
 have holt:w.heap.size < w2.heap.size:=by have:=HS2.out.lt;omega
 have prow3:w3.heap[h.p]?=some (.cells (prRow h st).toArray 72 (0,0)):=row_tn HS2.out.mc.prow ht3 (fun e=>HS2.out.mc.ne.1 e.symm)
 have hplt:h.p < w2.heap.size:=(Array.getElem?_eq_some_iff.1 HS2.out.mc.prow).1
 have HC3:=Lib.hid ((World.cell?_of_block (a:=⟨h.m,10,none⟩) (ht3.block h.m hmlt hml.1)).trans C10.out)
 have HO3:=Lib.hid ((World.cell?_of_block (a:=⟨w.heap.size,1,none⟩) (ht3.block w.heap.size holt hopl.1)).trans O1.out)
 have HCP3:=Lib.hid ((World.cell?_of_block (a:=⟨h.p,k0,none⟩) (ht3.block h.p hplt (fun e=>HS2.out.mc.ne.1 e.symm))).trans CP.out)
 have HPR3:=Lib.hid prow3;have HS3:=Lib.hid h6;clear h6 hI ht3 prow3 hmlt holt hplt;go_wp2_with fail
 refine' reg_order [eqV _,eqV _,eqV _,eqV _,eqV _,eqV _,eqV _,(fun _ w5=>w5.heap[h.p]?=some (.cells ((prRow h st).set k0 (.pointer none)).toArray 72 (0,0))∧RSetC w5 h.s h.sl st.pr zc zs (st.v &&& ~~~ qbit k0)∧Tn (fun k=>k=h.sl∨k=h.p) w2 w5)] [(7,fun _ _=>True)] [(3,fun w5=>Below w3.heap.size w3 w5),(5,fun w5=>Below w3.heap.size w3 w5),(7,fun w5=>Below w3.heap.size w3 w5)] [208,209,210,211,212,213,214,223] [[],[0],[1],[2],[],[4],[3,5],[6]] [0,1,2,3,4,5,6,7] 8 (by kernel_rfl) ⟨eS _,eS _,eS _,eS _,eS _,eS _,eS _,fun _ _ _ p b=>⟨row_keep p.1 b,p.2.1.below b,p.2.2.call b⟩,trivial⟩ ⟨⟨.inl (eS _),.inl (eS _),.inl (eS _),.inl (eS _),.inl (eS _),.inl (eS _),.inl (eS _),.inr (.inr rfl),trivial⟩,trivial⟩ ⟨fun _ _ p b=>Below.call p b,fun _ _ p b=>Below.call p b,fun _ _ p b=>Below.call p b,trivial⟩ ⟨⟨.inr (.inl (by kernel_rfl)),.inr (.inl (by kernel_rfl)),.inr (.inr rfl),trivial⟩,trivial⟩ ⟨(Below.refl w3.heap.size w3).drew,(Below.refl w3.heap.size w3).drew,(Below.refl w3.heap.size w3).drew,trivial⟩ 216 rfl (by kernel_rfl) (by kernel_rfl) rfl rfl 8 rfl ?q2obl ?q2fin
 case q2obl=>
  refine ⟨?q2o0,?q2o1,?q2o2,?q2o3,?q2o4,?q2o5,?q2o6,?q2o7,trivial⟩
  case q2o0 | q2o4=>
   intro w1 hI;refine t2o (by rfl) ?_;intro K hK;go_simp;refine hK _ _ ⟨rfl,Kept.refl _,?_⟩;show _=_;simp only [gv1];rfl
  case q2o1 | q2o2=>
   intro w1 hI;intro va ha;change _=_ at ha;subst va;refine t2o (by rfl) ?_;intro K hK;simp only [gv2];go_simp;refine hK _ _ ⟨rfl,Kept.refl _,?_⟩;show _=_;simp only [gv1];rfl
  case q2o3=>
   intro w1 hI
   replace hI:(fun w5=>Below w3.heap.size w3 w5) w1:=hI
   intro v2 h2;change _=_ at h2;subst v2;refine t2o (by rfl) ?_;intro K hK;simp only [gv2]
   have hc:=cel hI HC3.out
   go_simp;refine hK _ _ ⟨rfl,Kept.refl _,?_⟩;show _=_;simp only [gv1];rfl
  case q2o5=>
   intro w1 hI
   replace hI:(fun w5=>Below w3.heap.size w3 w5) w1:=hI
   intro v4 h4;change _=_ at h4;subst v4;refine t2o (by rfl) ?_;intro K hK;simp only [gv2]
   have hc:=cel hI HO3.out
   go_simp;refine hK _ _ ⟨rfl,Kept.refl _,?_⟩;show _=_;simp only [gv1];rfl
  case q2o6=>
   intro w1 hI;intro va ha;change _=_ at ha;subst va;intro vb hb;change _=_ at hb;subst vb;refine t2o (by rfl) ?_;intro K hK;simp only [gv2];go_simp;refine hK _ _ ⟨rfl,Kept.refl _,?_⟩;show _=_;simp only [gv1];rfl
  case q2o7=>
   intro w1 hI
   replace hI:(fun w5=>Below w3.heap.size w3 w5) w1:=hI
   intro v6 h6;change _=_ at h6;subst v6;refine t2o (by rfl) ?_;intro K hK;simp only [gv2]
   have hc:=cel hI HCP3.out
   have hr:=row_keep HPR3.out hI
   have hf:=frozen_of_row w1 h.p k0 _ _ hr
   have g5:=cell_grown1 w1 h.p k0 (.pointer none)
   have hs4:=HS3.out.below hI
   have hs5:=hs4.at (g5.block _ hs4.lt.1 (fun e=>by injection e with e;exact hne e)) (g5.block _ hs4.lt.2 (fun e=>by injection e with e;exact HS2.out.mc.ne.1 e))
   have hrr:(w1.setCell ⟨h.p,k0,none⟩ (.pointer none)).heap[h.p]?=_:=heap_setCell_same w1 h.p k0 _ _ _ hr
   rw [bytes_set] at hrr;go_simp
   refine hK _ _ ⟨rfl,trivial,?_⟩
   exact ⟨hrr,hs5,((HT3.out.mono (fun k _ e=>.inl e)).call hI).put g5 (.inl (.inr rfl))⟩
 intro w5 hI;intro v0 h0;change _=_ at h0;subst v0;intro v1 h1;change _=_ at h1;subst v1;intro v2 h2;change _=_ at h2;subst v2;intro v3 h3;change _=_ at h3;subst v3;intro v4 h4;change _=_ at h4;subst v4;intro v5 h5;change _=_ at h5;subst v5;intro v6 h6;change _=_ at h6;subst v6;intro v7 h7
 obtain ⟨hpr7,hset7,ht7⟩:=h7
 simp only [Given,gv2]
 have hv:∀ q,Mc.has { st with v:=st.v &&& ~~~ qbit k0,rs:=upd st.rs (k0:Int) [],ms:=upd st.ms (k0:Int) [] } q=(st.has q && !decide (q=(k0:Int))):=fun q=>has_drop HI.out.ok.cf.procs.2 q
 have hw:=HS2.out.mc.went ht7 hset7 hpr7 hv (ok_gone HI.out.ok k0)
 have HS5:=Lib.hid (HS2.out.turn hw (ht7.mono (fun k _ e=>e.elim .inl (fun e=>.inr (.inl e)))) (fun k hk=>hk) (fun k hk=>.inl hk) rfl (fun k hk=>by
  rcases hk with e | e | ⟨q,hq,hk⟩
  ·exact .inl (.inl e)
  ·exact .inl (.inr (.inl e))
  ·rw [hv] at hq
   have hq2:st.has q=true∧q ≠ (k0:Int):=by simpa using hq
   change (h.pr q).own (upd st.ms (k0:Int) [] q) k at hk
   rw [upd_other _ _ hq2.2] at hk
   exact .inl (.inr (.inr ⟨q,hq2.1,hk⟩))))
 clear ht7 hset7 hpr7 hw hv hI
 obtain ⟨y0,y1,y2,y3⟩:=cells4a HS5.out.res
 have hf:∀ i,w5.frozen? ⟨w.heap.size+1,i,none⟩=false:=fun i=>frozen_of_row w5 (w.heap.size+1) i _ _ HS5.out.res
 have HF:=Lib.hid (HS5.out.fin (B:=w5.heap.size) HS5.out.lt (⟨0,0,[],[]⟩:Ans) (dv:=.slice none 0 0) (pv:=.slice none 0 0) (Owns.nil _ _ _ _) (Owns.nil _ _ _ _))
 skip
 go_wp2
 obtain ⟨r0,r1,r2,r3⟩:=cells4a HF.out.2.2.2.2
 unfold sets sets sets sets sets at r0 r1 r2 r3
 refine bodyPost_ret (v:=.agg #[.int .i64 (Ans.err (⟨0,0,[],[]⟩:Ans)),.int .i64 (Ans.pid (⟨0,0,[],[]⟩:Ans)),.slice none 0 0,.slice none 0 0]) (by simp [results,Tryz.results9,go_sem,r0,r1,r2,r3]) rfl ?_
 exact ⟨_,_,_,rfl,HF.out.1,HF.out.2.1,HF.out.2.2.1,HF.out.2.2.2.1,HS5.out.hm,fun k hk=>(HS5.out.own k hk).imp id (fun h=>by omega)⟩
end
section
variable {No:Nat→Prop} {h:RmH} {st:Mc} {w:World}
set_option maxHeartbeats 4000000 in
theorem rdo_turn2 (i:RmIn w No h st) (pid ad n pr:Int) (d:List Int) (a:Option Addr) (dn dc:Nat) (hp:(Lit.int .i64 pid).wf=true) (hk:(Lit.int .i64 ad).wf=true) (hn:(Lit.int .i64 n).wf=true) (hd:d.length=dn) (hdl:dn≤9223372036854775807) (hhas:st.has pid=true) (hte:turnE st.c (st.rs pid) ⟨2,pid,ad,n,pr,d⟩=0) (hE:checkE st ⟨2,pid,ad,n,pr,d⟩=0) :
  Calls Tryz.prog 9 #[.pointer (some ⟨h.m,0,none⟩),.agg #[.int .i64 2,.int .i64 pid,.int .i64 ad,.int .i64 n,.int .i64 pr,.slice a dn dc]] w (RDoPost No h st ⟨0,0,[],[]⟩ ({ st with rs:=upd st.rs pid (turnL (st.rs pid) ⟨2,pid,ad,n,pr,d⟩),ms:=upd st.ms pid (st.ms pid) }) w):=by
 have s0:=rdos_start (orow:=#[.int .i64 2,.int .i64 pid,.int .i64 ad,.int .i64 n,.int .i64 pr,.slice a dn dc]) i
 have hck:=rcheck_any s0.mc ⟨2,pid,ad,n,pr,d⟩ a dn dc hp hk hn hd hdl
 have HI:=Lib.hid i;have HP:=Lib.hid hp;have HAD:=Lib.hid hk;have HN:=Lib.hid hn;have HD:=Lib.hid hd
 obtain ⟨o0,o1,o2,o3,o4,o5⟩:=cells6 s0.op
 have HS0:=Lib.hid s0;rw [hE] at hck;have HH:=Lib.hid hhas;have HTE:=Lib.hid hte
 skip
 clear hE hhas hte;have HCK:=Lib.hid hck;clear hck s0 i hp hk hn hd 
 go_enter Tryz.func9,Tryz.ntmps9
 go_wp2_with fail
 refine HCK.out.mono ?_
 rintro e w2 ⟨rfl,hb2⟩
 have HS2:=Lib.hid (HS0.out.below hb2)
 replace o0:=cel hb2 o0;replace o1:=cel hb2 o1;replace o2:=cel hb2 o2;replace o3:=cel hb2 o3;replace o4:=cel hb2 o4;replace o5:=cel hb2 o5;clear hb2
 obtain ⟨_,_,_,_,_,c10⟩:=HS2.out.mc.cells
 obtain ⟨q,hq,hql,cp⟩:=HS2.out.mc.ptr HH.out
 subst hq
 have hq64:(q:Int) < (st.pr:Int):=by omega
 have hprl:(st.pr:Int)≤64:=by have:=HI.out.ok.prL;omega
 go_wp2_with fail;go_quiet (fail)
 have hbq:Below w2.heap.size w2 (w2.drewN nq):=belowN (Below.refl _ _) _
 replace o0:=cel hbq o0;replace o1:=cel hbq o1;replace o2:=cel hbq o2;replace o3:=cel hbq o3;replace o4:=cel hbq o4;replace o5:=cel hbq o5
 have hs3:=HS2.out.below hbq
 obtain ⟨w3,hw3⟩:∃ y:World,w2.drewN nq=y:=⟨_,rfl⟩
 rw [hw3] at hs3 o0 o1 o2 o3 o4 o5 ⊢;have HS3:=Lib.hid hs3;clear hs3 hbq hw3 c10 cp
 have hr:=rregs_2 HS3.out.mc (q:Int) HH.out (q:Int) ad n pr d a dn dc HAD.out HN.out
 rw [HTE.out] at hr
 obtain ⟨RR,hRR⟩:∃ y,turnL (st.rs (q:Int)) ⟨2,(q:Int),ad,n,pr,d⟩=y:=⟨_,rfl⟩
 rw [hRR] at hr ⊢;have HRR:=Lib.hid hRR;have HR:=Lib.hid hr;clear hr hRR;go_wp2_with fail
 refine HR.out.mono ?_
 rintro e w4 ⟨ra,rn,rc,rfl,hov,hb4⟩
 replace hov:=hov rfl
 have HS4:=Lib.hid (HS3.out.below hb4)
 replace o0:=cel hb4 o0;replace o1:=cel hb4 o1;replace o2:=cel hb4 o2;replace o3:=cel hb4 o3;replace o4:=cel hb4 o4;replace o5:=cel hb4 o5
 have p4:=HS4.out.mc.pr (q:Int) HH.out
 obtain ⟨_,_,_,_,_,e4,_⟩:=p4.row
 have c4:=cell_of_row w4 _ 0 _ _ _ e4
 have f4:=frozen_of_row w4 _ 0 _ _ e4
 have p5:=p4.regd (hov.slV rgC (fun k hk=>HS3.out.mc.lt k hk))
 have t5:Tn ((h.pr (q:Int)).own (st.ms (q:Int))) w4 (w4.setCell ⟨(h.pr (q:Int)).b,0,none⟩ (.slice ra rn rc)):=(Tn.refl _ w4).put (cell_grown1 _ _ _ _) (.inl (.inl rfl))
 have hblt:(h.pr (q:Int)).b < w4.heap.size:=(Array.getElem?_eq_some_iff.1 e4).1
 obtain ⟨w5,hw5⟩:∃ y,w4.setCell ⟨(h.pr (q:Int)).b,0,none⟩ (.slice ra rn rc)=y:=⟨_,rfl⟩
 rw [hw5] at p5 t5;have HP5:=Lib.hid p5;have HT5:=Lib.hid t5;have HW5:=Lib.hid hw5
 have HTF:=Lib.hid (turn_facts HTE.out)
 have HTO:=Lib.hid (turn_ok HI.out.ok.cf (HI.out.ok.cn (q:Int)) (HI.out.ok.wi (q:Int)) HTE.out (by simp))
 rw [HRR.out] at HTO;clear hov hb4 p4 e4 p5 t5 hw5 hblt
 have hkp:=turn_keeps (o:=⟨2,(q:Int),ad,n,pr,d⟩) HI.out.ok.cf (HI.out.ok.cn (q:Int)) (HI.out.ok.wi (q:Int)) HTE.out (by simp) (fun x hx=>(HI.out.ok.pg (q:Int) x hx).2)
 rw [HRR.out] at hkp
 have HKP:Hid (∀ x ∈ st.ms (q:Int),findB RR x.1=true):=fun x hx=>by
  rw [← hkp] at hx
  exact (List.mem_filter.1 hx).2
 clear hkp
 have hmk:=HS4.out.mc.proc (H':=h.pr (q:Int)) (R':=RR) (L':=st.ms (q:Int)) HH.out HT5.out HP5.out (ok_ms HI.out.ok HH.out HTO.out.1 HTO.out.2 (HI.out.ok.srt (q:Int)) (fun x hx=>⟨(HI.out.ok.pg (q:Int) x hx).1,HKP.out x hx⟩)) rfl (fun k hk=>.inl (hk)) (fun k hk=>hk) (fun k hk=>.inl hk) (fun k hk=>Nat.lt_of_lt_of_le (HS4.out.mc.lt k hk) HT5.out.size)
 have HS5:=Lib.hid (HS4.out.turn hmk (HT5.out.mono (fun k _ hk=>.inr (.inr ⟨_,HH.out,hk⟩))) (fun k hk=>hk) (fun k hk=>.inl hk) rfl (RmIn.proc_own HH.out (fun k hk=>.inl (hk))))
 clear hmk
 obtain ⟨y0,y1,y2,y3⟩:=cells4a HS5.out.res
 have hf:∀ i,w5.frozen? ⟨w.heap.size+1,i,none⟩=false:=fun i=>frozen_of_row w5 (w.heap.size+1) i _ _ HS5.out.res
 have HF:=Lib.hid (HS5.out.fin (B:=w5.heap.size) HS5.out.lt (⟨0,0,[],[]⟩:Ans) (dv:=.slice none 0 0) (pv:=.slice none 0 0) (Owns.nil _ _ _ _) (Owns.nil _ _ _ _))
 skip
 go_wp2_with (rw [HW5.out])
 obtain ⟨r0,r1,r2,r3⟩:=cells4a HF.out.2.2.2.2
 unfold sets sets sets sets sets at r0 r1 r2 r3
 refine bodyPost_ret (v:=.agg #[.int .i64 (Ans.err (⟨0,0,[],[]⟩:Ans)),.int .i64 (Ans.pid (⟨0,0,[],[]⟩:Ans)),.slice none 0 0,.slice none 0 0]) (by simp [results,Tryz.results9,go_sem,r0,r1,r2,r3]) rfl ?_
 rw [HRR.out]
 exact ⟨_,_,_,rfl,HF.out.1,HF.out.2.1,HF.out.2.2.1,HF.out.2.2.2.1,HS5.out.hm,fun k hk=>(HS5.out.own k hk).imp id (fun h=>by omega)⟩
set_option maxHeartbeats 4000000 in
theorem rdo_turn4 (i:RmIn w No h st) (pid ad n pr:Int) (d:List Int) (a:Option Addr) (dn dc:Nat) (hp:(Lit.int .i64 pid).wf=true) (hk:(Lit.int .i64 ad).wf=true) (hn:(Lit.int .i64 n).wf=true) (hd:d.length=dn) (hdl:dn≤9223372036854775807) (hhas:st.has pid=true) (hte:turnE st.c (st.rs pid) ⟨4,pid,ad,n,pr,d⟩=0) (hE:checkE st ⟨4,pid,ad,n,pr,d⟩=0) :
  Calls Tryz.prog 9 #[.pointer (some ⟨h.m,0,none⟩),.agg #[.int .i64 4,.int .i64 pid,.int .i64 ad,.int .i64 n,.int .i64 pr,.slice a dn dc]] w (RDoPost No h st ⟨0,0,[],[]⟩ ({ st with rs:=upd st.rs pid (turnL (st.rs pid) ⟨4,pid,ad,n,pr,d⟩),ms:=upd st.ms pid (st.ms pid) }) w):=by
 have s0:=rdos_start (orow:=#[.int .i64 4,.int .i64 pid,.int .i64 ad,.int .i64 n,.int .i64 pr,.slice a dn dc]) i
 have hck:=rcheck_any s0.mc ⟨4,pid,ad,n,pr,d⟩ a dn dc hp hk hn hd hdl
 have HI:=Lib.hid i;have HP:=Lib.hid hp;have HAD:=Lib.hid hk;have HN:=Lib.hid hn;have HD:=Lib.hid hd
 obtain ⟨o0,o1,o2,o3,o4,o5⟩:=cells6 s0.op
 have HS0:=Lib.hid s0;rw [hE] at hck;have HH:=Lib.hid hhas;have HTE:=Lib.hid hte
 skip
 clear hE hhas hte;have HCK:=Lib.hid hck;clear hck s0 i hp hk hn hd 
 go_enter Tryz.func9,Tryz.ntmps9
 go_wp2_with fail
 refine HCK.out.mono ?_
 rintro e w2 ⟨rfl,hb2⟩
 have HS2:=Lib.hid (HS0.out.below hb2)
 replace o0:=cel hb2 o0;replace o1:=cel hb2 o1;replace o2:=cel hb2 o2;replace o3:=cel hb2 o3;replace o4:=cel hb2 o4;replace o5:=cel hb2 o5;clear hb2
 obtain ⟨_,_,_,_,_,c10⟩:=HS2.out.mc.cells
 obtain ⟨q,hq,hql,cp⟩:=HS2.out.mc.ptr HH.out
 subst hq
 have hq64:(q:Int) < (st.pr:Int):=by omega
 have hprl:(st.pr:Int)≤64:=by have:=HI.out.ok.prL;omega
 go_wp2_with fail;go_quiet (fail)
 have hbq:Below w2.heap.size w2 (w2.drewN nq):=belowN (Below.refl _ _) _
 replace o0:=cel hbq o0;replace o1:=cel hbq o1;replace o2:=cel hbq o2;replace o3:=cel hbq o3;replace o4:=cel hbq o4;replace o5:=cel hbq o5
 have hs3:=HS2.out.below hbq
 obtain ⟨w3,hw3⟩:∃ y:World,w2.drewN nq=y:=⟨_,rfl⟩
 rw [hw3] at hs3 o0 o1 o2 o3 o4 o5 ⊢;have HS3:=Lib.hid hs3;clear hs3 hbq hw3 c10 cp
 have hr:=rregs_4 HS3.out.mc (q:Int) HH.out (q:Int) ad n pr d a dn dc HAD.out HN.out
 rw [HTE.out] at hr
 obtain ⟨RR,hRR⟩:∃ y,turnL (st.rs (q:Int)) ⟨4,(q:Int),ad,n,pr,d⟩=y:=⟨_,rfl⟩
 rw [hRR] at hr ⊢;have HRR:=Lib.hid hRR;have HR:=Lib.hid hr;clear hr hRR;go_wp2_with fail
 refine HR.out.mono ?_
 rintro e w4 ⟨ra,rn,rc,rfl,hov,hb4⟩
 replace hov:=hov rfl
 have HS4:=Lib.hid (HS3.out.below hb4)
 replace o0:=cel hb4 o0;replace o1:=cel hb4 o1;replace o2:=cel hb4 o2;replace o3:=cel hb4 o3;replace o4:=cel hb4 o4;replace o5:=cel hb4 o5
 have p4:=HS4.out.mc.pr (q:Int) HH.out
 obtain ⟨_,_,_,_,_,e4,_⟩:=p4.row
 have c4:=cell_of_row w4 _ 0 _ _ _ e4
 have f4:=frozen_of_row w4 _ 0 _ _ e4
 have p5:=p4.regd (hov.slV rgC (fun k hk=>HS3.out.mc.lt k hk))
 have t5:Tn ((h.pr (q:Int)).own (st.ms (q:Int))) w4 (w4.setCell ⟨(h.pr (q:Int)).b,0,none⟩ (.slice ra rn rc)):=(Tn.refl _ w4).put (cell_grown1 _ _ _ _) (.inl (.inl rfl))
 have hblt:(h.pr (q:Int)).b < w4.heap.size:=(Array.getElem?_eq_some_iff.1 e4).1
 obtain ⟨w5,hw5⟩:∃ y,w4.setCell ⟨(h.pr (q:Int)).b,0,none⟩ (.slice ra rn rc)=y:=⟨_,rfl⟩
 rw [hw5] at p5 t5;have HP5:=Lib.hid p5;have HT5:=Lib.hid t5;have HW5:=Lib.hid hw5
 have HTF:=Lib.hid (turn_facts HTE.out)
 have HTO:=Lib.hid (turn_ok HI.out.ok.cf (HI.out.ok.cn (q:Int)) (HI.out.ok.wi (q:Int)) HTE.out (by simp))
 rw [HRR.out] at HTO;clear hov hb4 p4 e4 p5 t5 hw5 hblt
 have hkp:=turn_keeps (o:=⟨4,(q:Int),ad,n,pr,d⟩) HI.out.ok.cf (HI.out.ok.cn (q:Int)) (HI.out.ok.wi (q:Int)) HTE.out (by simp) (fun x hx=>(HI.out.ok.pg (q:Int) x hx).2)
 rw [HRR.out] at hkp
 have HKP:Hid (∀ x ∈ st.ms (q:Int),findB RR x.1=true):=fun x hx=>by
  rw [← hkp] at hx
  exact (List.mem_filter.1 hx).2
 clear hkp
 have hmk:=HS4.out.mc.proc (H':=h.pr (q:Int)) (R':=RR) (L':=st.ms (q:Int)) HH.out HT5.out HP5.out (ok_ms HI.out.ok HH.out HTO.out.1 HTO.out.2 (HI.out.ok.srt (q:Int)) (fun x hx=>⟨(HI.out.ok.pg (q:Int) x hx).1,HKP.out x hx⟩)) rfl (fun k hk=>.inl (hk)) (fun k hk=>hk) (fun k hk=>.inl hk) (fun k hk=>Nat.lt_of_lt_of_le (HS4.out.mc.lt k hk) HT5.out.size)
 have HS5:=Lib.hid (HS4.out.turn hmk (HT5.out.mono (fun k _ hk=>.inr (.inr ⟨_,HH.out,hk⟩))) (fun k hk=>hk) (fun k hk=>.inl hk) rfl (RmIn.proc_own HH.out (fun k hk=>.inl (hk))))
 clear hmk
 obtain ⟨y0,y1,y2,y3⟩:=cells4a HS5.out.res
 have hf:∀ i,w5.frozen? ⟨w.heap.size+1,i,none⟩=false:=fun i=>frozen_of_row w5 (w.heap.size+1) i _ _ HS5.out.res
 have HF:=Lib.hid (HS5.out.fin (B:=w5.heap.size) HS5.out.lt (⟨0,0,[],[]⟩:Ans) (dv:=.slice none 0 0) (pv:=.slice none 0 0) (Owns.nil _ _ _ _) (Owns.nil _ _ _ _))
 skip
 go_wp2_with (rw [HW5.out])
 obtain ⟨r0,r1,r2,r3⟩:=cells4a HF.out.2.2.2.2
 unfold sets sets sets sets sets at r0 r1 r2 r3
 refine bodyPost_ret (v:=.agg #[.int .i64 (Ans.err (⟨0,0,[],[]⟩:Ans)),.int .i64 (Ans.pid (⟨0,0,[],[]⟩:Ans)),.slice none 0 0,.slice none 0 0]) (by simp [results,Tryz.results9,go_sem,r0,r1,r2,r3]) rfl ?_
 rw [HRR.out]
 exact ⟨_,_,_,rfl,HF.out.1,HF.out.2.1,HF.out.2.2.1,HF.out.2.2.2.1,HS5.out.hm,fun k hk=>(HS5.out.own k hk).imp id (fun h=>by omega)⟩
end
def outP (ad n:Int) (x:Int × List Int):Bool:=!decide (ad≤x.1∧x.1 < ad+n)
section
variable {No:Nat→Prop} {h:RmH} {st:Mc} {w:World}
set_option maxHeartbeats 4000000 in
theorem rdo_turn3 (i:RmIn w No h st) (pid ad n pr:Int) (d:List Int) (a:Option Addr) (dn dc:Nat) (hp:(Lit.int .i64 pid).wf=true) (hk:(Lit.int .i64 ad).wf=true) (hn:(Lit.int .i64 n).wf=true) (hd:d.length=dn) (hdl:dn≤9223372036854775807) (hhas:st.has pid=true) (hte:turnE st.c (st.rs pid) ⟨3,pid,ad,n,pr,d⟩=0) (hE:checkE st ⟨3,pid,ad,n,pr,d⟩=0) :
  Calls Tryz.prog 9 #[.pointer (some ⟨h.m,0,none⟩),.agg #[.int .i64 3,.int .i64 pid,.int .i64 ad,.int .i64 n,.int .i64 pr,.slice a dn dc]] w (RDoPost No h st ⟨0,0,[],[]⟩ ({ st with rs:=upd st.rs pid (turnL (st.rs pid) ⟨3,pid,ad,n,pr,d⟩),ms:=upd st.ms pid ((st.ms pid).filter (outP ad n)) }) w):=by
 have s0:=rdos_start (orow:=#[.int .i64 3,.int .i64 pid,.int .i64 ad,.int .i64 n,.int .i64 pr,.slice a dn dc]) i
 have hck:=rcheck_any s0.mc ⟨3,pid,ad,n,pr,d⟩ a dn dc hp hk hn hd hdl
 have HI:=Lib.hid i;have HP:=Lib.hid hp;have HAD:=Lib.hid hk;have HN:=Lib.hid hn;have HD:=Lib.hid hd
 obtain ⟨o0,o1,o2,o3,o4,o5⟩:=cells6 s0.op
 have HS0:=Lib.hid s0;rw [hE] at hck;have HH:=Lib.hid hhas;have HTE:=Lib.hid hte
 skip
 clear hE hhas hte;have HCK:=Lib.hid hck;clear hck s0 i hp hk hn hd 
 go_enter Tryz.func9,Tryz.ntmps9
 go_wp2_with fail
 refine HCK.out.mono ?_
 rintro e w2 ⟨rfl,hb2⟩
 have HS2:=Lib.hid (HS0.out.below hb2)
 replace o0:=cel hb2 o0;replace o1:=cel hb2 o1;replace o2:=cel hb2 o2;replace o3:=cel hb2 o3;replace o4:=cel hb2 o4;replace o5:=cel hb2 o5;clear hb2
 obtain ⟨_,_,_,_,_,c10⟩:=HS2.out.mc.cells
 obtain ⟨q,hq,hql,cp⟩:=HS2.out.mc.ptr HH.out
 subst hq
 have hq64:(q:Int) < (st.pr:Int):=by omega
 have hprl:(st.pr:Int)≤64:=by have:=HI.out.ok.prL;omega
 go_wp2_with fail;go_quiet (fail)
 have hbq:Below w2.heap.size w2 (w2.drewN nq):=belowN (Below.refl _ _) _
 replace o0:=cel hbq o0;replace o1:=cel hbq o1;replace o2:=cel hbq o2;replace o3:=cel hbq o3;replace o4:=cel hbq o4;replace o5:=cel hbq o5
 have hs3:=HS2.out.below hbq
 obtain ⟨w3,hw3⟩:∃ y:World,w2.drewN nq=y:=⟨_,rfl⟩
 rw [hw3] at hs3 o0 o1 o2 o3 o4 o5 ⊢;have HS3:=Lib.hid hs3;clear hs3 hbq hw3 c10 cp
 have hr:=rregs_3 HS3.out.mc (q:Int) HH.out (q:Int) ad n pr d a dn dc HAD.out HN.out
 rw [HTE.out] at hr
 obtain ⟨RR,hRR⟩:∃ y,turnL (st.rs (q:Int)) ⟨3,(q:Int),ad,n,pr,d⟩=y:=⟨_,rfl⟩
 rw [hRR] at hr;have HRR:=Lib.hid hRR;have HR:=Lib.hid hr;clear hr hRR;go_wp2_with fail
 refine HR.out.mono ?_
 rintro e w4 ⟨ra,rn,rc,rfl,hov,hb4⟩
 replace hov:=hov rfl
 have HS4:=Lib.hid (HS3.out.below hb4)
 replace o0:=cel hb4 o0;replace o1:=cel hb4 o1;replace o2:=cel hb4 o2;replace o3:=cel hb4 o3;replace o4:=cel hb4 o4;replace o5:=cel hb4 o5
 have p4:=HS4.out.mc.pr (q:Int) HH.out
 obtain ⟨_,_,_,_,_,e4,_⟩:=p4.row
 have c4:=cell_of_row w4 _ 0 _ _ _ e4
 have f4:=frozen_of_row w4 _ 0 _ _ e4
 have p5:=p4.regd (hov.slV rgC (fun k hk=>HS3.out.mc.lt k hk))
 have t5:Tn ((h.pr (q:Int)).own (st.ms (q:Int))) w4 (w4.setCell ⟨(h.pr (q:Int)).b,0,none⟩ (.slice ra rn rc)):=(Tn.refl _ w4).put (cell_grown1 _ _ _ _) (.inl (.inl rfl))
 have hblt:(h.pr (q:Int)).b < w4.heap.size:=(Array.getElem?_eq_some_iff.1 e4).1
 obtain ⟨w5,hw5⟩:∃ y,w4.setCell ⟨(h.pr (q:Int)).b,0,none⟩ (.slice ra rn rc)=y:=⟨_,rfl⟩
 rw [hw5] at p5 t5;have HP5:=Lib.hid p5;have HT5:=Lib.hid t5;have HW5:=Lib.hid hw5
 have HTF:=Lib.hid (turn_facts HTE.out)
 have HTO:=Lib.hid (turn_ok HI.out.ok.cf (HI.out.ok.cn (q:Int)) (HI.out.ok.wi (q:Int)) HTE.out (by simp))
 rw [HRR.out] at HTO;clear hov hb4 p4 e4 p5 t5 hw5 hblt
 have hpg:=HI.out.ok.cf.pages
 have hst0:=HTF.out.1
 have ha1:1≤n:=hst0.1
 have ha0:0≤ad:=hst0.2.1
 have ha2:ad+n≤65536:=by have h1:=hst0.2.2.1;have h2:=hst0.2.2.2;dsimp only at h1 h2;omega
 have ha3:n≤65536:=by omega
 have ha4:ad≤65536:=by omega
 have hlen:=HI.out.ok.few (q:Int)
 have HS:=Lib.hid (HI.out.ok.srt (q:Int))
 have hp5:=HP5.out
 obtain ⟨_,_,_,la,lc,_,z1,_,h3⟩:=HP5.out.cell
 obtain ⟨NL,hNL⟩:∃ y,(st.ms (q:Int)).length=y:=⟨_,rfl⟩
 rw [hNL] at z1 h3 hlen;have HNL:=Lib.hid hNL;have HL3:=Lib.hid h3;have HZ1:=Lib.hid z1
 have ho2:w5.cell? ⟨w.heap.size,2,none⟩=some (.int .i64 ad):=by
  rw [← HW5.out]
  exact (World.cell?_of_block (a:=⟨w.heap.size,2,none⟩) (heap_setCell_other w4 ⟨(h.pr (q:Int)).b,0,none⟩ w.heap.size _ (fun e=>by have h1:=HS4.out.own_lt (.inr (.inr ⟨_,HH.out,.inl e⟩));omega))).trans o2
 have ho3:w5.cell? ⟨w.heap.size,3,none⟩=some (.int .i64 n):=by
  rw [← HW5.out]
  exact (World.cell?_of_block (a:=⟨w.heap.size,3,none⟩) (heap_setCell_other w4 ⟨(h.pr (q:Int)).b,0,none⟩ w.heap.size _ (fun e=>by have h1:=HS4.out.own_lt (.inr (.inr ⟨_,HH.out,.inl e⟩));omega))).trans o3
 have HO2:=Lib.hid ho2;have HO3:=Lib.hid ho3;clear hpg hst0 hp5 h3 hNL ho2 ho3
 go_wp2_with (rw [HW5.out])
 go_loopw [9,10] (fun v i wr=>∃ k:Nat,k≤NL∧i = .int .i64 k∧Hid (OwnsS PgE.cells 2 84 wr w5.heap.size v (prL (h.pr (q:Int)) (((st.ms (q:Int)).take k).filter (outP ad n)))∧Below w5.heap.size w5 wr)) (fun _ i _=>NL - (intOf i).toNat)
 case atStart=>exact ⟨0,by omega,rfl,OwnsS.nil _ _ _ _ _,Below.refl _ _⟩
 case round=>
  obtain ⟨k,hk,rfl,hh⟩:=hrel
  obtain ⟨ow,hbr⟩:=hh.out
  obtain ⟨M,hM⟩:∃ y,(((st.ms (q:Int)).take k).filter (outP ad n)).length=y:=⟨_,rfl⟩
  have hMk:M≤k:=by rw [← hM];refine Nat.le_trans (List.length_filter_le _ _) ?_;rw [List.length_take];omega
  obtain ⟨va,vc,rfl⟩:=ow.shapeN M (by rw [prL_len];exact hM)
  have HM:=Lib.hid hM;have OW:=Lib.hid ow;have BR:=Lib.hid hbr
  have z2:=cel hbr HZ1.out
  have o2r:=cel hbr HO2.out
  have o3r:=cel hbr HO3.out
  clear hh ow hbr hM o0 o1 o2 o3 o4 o5 z1 c4 f4
  by_cases hkN:k < NL
  ·obtain ⟨x,hx⟩:∃ x,(st.ms (q:Int))[k]?=some x:=⟨_,List.getElem?_eq_getElem (by rw [HNL.out];exact hkN)⟩
   have hin:=find_in (HI.out.ok.pg (q:Int) x (List.mem_of_getElem? hx)).2 (HI.out.ok.wi (q:Int))
   have hpgs:=HI.out.ok.cf.pages
   obtain ⟨N,B⟩:=x
   have HTK:=Lib.hid (take_snoc hx)
   obtain ⟨bb,oo,hla,q0,q1⟩:=pge_at HL3.out hx
   subst hla
   obtain ⟨NB,hNB⟩:∃ y,B.length=y:=⟨_,rfl⟩
   replace q1:w5.cell? ⟨bb,oo+k * 2+1,none⟩=some (.slice (some ⟨(h.pr (q:Int)).q N,0,none⟩) B.length ((h.pr (q:Int)).cp N)):=q1
   replace q0:w5.cell? ⟨bb,oo+k * 2,none⟩=some (.int .i64 N):=q0
   replace hin:0≤N∧N < st.c.pages:=hin
   have hN1:N≤65536:=by omega
   have hN0:0≤N:=hin.1
   have HE:Hid (prE (h.pr (q:Int)) (N,B)=⟨N,(h.pr (q:Int)).q N,NB,(h.pr (q:Int)).cp N⟩):=by show _=_;rw [← hNB];rfl
   rw [hNB] at q1
   obtain ⟨qb,hqb⟩:∃ y,(h.pr (q:Int)).q N=y:=⟨_,rfl⟩
   obtain ⟨qc,hqc⟩:∃ y,(h.pr (q:Int)).cp N=y:=⟨_,rfl⟩
   rw [hqb,hqc] at q1 HE;replace q0:=cel BR.out q0;replace q1:=cel BR.out q1
   have hcap:=HL3.out.1.cap
   clear hin hpgs hx hNB hqb hqc
   by_cases e1:N < ad
   ·have d1:decide (N < ad)=true:=decide_eq_true e1
    have HF:Hid (prL (h.pr (q:Int)) (((st.ms (q:Int)).take (k+1)).filter (outP ad n))=prL (h.pr (q:Int)) (((st.ms (q:Int)).take k).filter (outP ad n)) ++ [⟨N,qb,NB,qc⟩]):=by
     show _=_
     rw [HTK.out,List.filter_append,List.filter_cons,if_pos (by unfold outP;simp;omega),List.filter_nil]
     unfold prL
     rw [List.map_append,List.map_cons,List.map_nil,HE.out]

    go_wp2_with fail;go_quiet (fail)
    have hbq:=belowN (Below.refl wr.heap.size wr) nq
    have OWq:=Lib.hid (OW.out.below hbq)
    have BQ:=Lib.hid (Below.call BR.out hbq)
    replace z2:=cel hbq z2;replace q0:=cel hbq q0;replace q1:=cel hbq q1
    obtain ⟨wq,hwq⟩:∃ y,wr.drewN nq=y:=⟨_,rfl⟩
    rw [hwq] at OWq BQ z2 q0 q1 ⊢;clear hbq hwq
    go_wp2_with (at_builtin;refine appS_one pgEC pgT pgEI rfl (by decide) rfl (.tmp 124) (.tmp 132) rfl _ w5.heap.size (.slice va M vc) _ rfl (OWq.out.alloc _) _ 1 ⟨N,qb,NB,qc⟩ rfl (heap_alloc_new wq _) (by rw [prL_len,HM.out];omega) (by have:=BQ.out.size;simp;omega) ?_;intro v1 w6 ho1 hg1)
    have hb6:=BQ.out.trans (hg1.back.below BQ.out.size (fun y e=>(OWq.out.at_base y e).1))
    go_roundw
    case rel=>exact ⟨k+1,by omega,by go_num,by rw [HF.out];exact ho1,hb6⟩
    case measure=>simp [intOf] <;> omega
   ·have d1:decide (N < ad)=false:=decide_eq_false e1
    by_cases e2:ad+n≤N
    ·have HF:Hid (prL (h.pr (q:Int)) (((st.ms (q:Int)).take (k+1)).filter (outP ad n))=prL (h.pr (q:Int)) (((st.ms (q:Int)).take k).filter (outP ad n)) ++ [⟨N,qb,NB,qc⟩]):=by
      show _=_
      rw [HTK.out,List.filter_append,List.filter_cons,if_pos (by unfold outP;simp;omega),List.filter_nil]
      unfold prL
      rw [List.map_append,List.map_cons,List.map_nil,HE.out]
     have d2:decide (N ≥ ad+n)=true:=decide_eq_true e2
     have d3:decide (ad+n≤N)=true:=decide_eq_true e2
     go_wp2_with fail;go_quiet (fail)
     have hbq:=belowN (Below.refl wr.heap.size wr) nq
     have OWq:=Lib.hid (OW.out.below hbq)
     have BQ:=Lib.hid (Below.call BR.out hbq)
     replace z2:=cel hbq z2;replace q0:=cel hbq q0;replace q1:=cel hbq q1
     obtain ⟨wq,hwq⟩:∃ y,wr.drewN nq=y:=⟨_,rfl⟩
     rw [hwq] at OWq BQ z2 q0 q1 ⊢;clear hbq hwq
     go_wp2_with (at_builtin;refine appS_one pgEC pgT pgEI rfl (by decide) rfl (.tmp 124) (.tmp 132) rfl _ w5.heap.size (.slice va M vc) _ rfl (OWq.out.alloc _) _ 1 ⟨N,qb,NB,qc⟩ rfl (heap_alloc_new wq _) (by rw [prL_len,HM.out];omega) (by have:=BQ.out.size;simp;omega) ?_;intro v1 w6 ho1 hg1)
     have hb6:=BQ.out.trans (hg1.back.below BQ.out.size (fun y e=>(OWq.out.at_base y e).1))
     go_roundw
     case rel=>exact ⟨k+1,by omega,by go_num,by rw [HF.out];exact ho1,hb6⟩
     case measure=>simp [intOf] <;> omega
    ·have d2:decide (N ≥ ad+n)=false:=decide_eq_false e2
     have d3:decide (ad+n≤N)=false:=decide_eq_false e2
     have HF:Hid (((st.ms (q:Int)).take (k+1)).filter (outP ad n)=((st.ms (q:Int)).take k).filter (outP ad n)):=by
      show _=_
      rw [HTK.out,List.filter_append,List.filter_cons,if_neg (by unfold outP;simp;omega),List.filter_nil,List.append_nil]
     go_wp2_with fail;go_quiet (fail)
     have hbq:=belowN (Below.refl wr.heap.size wr) nq
     have OWq:=Lib.hid (OW.out.below hbq)
     have BQ:=Lib.hid (Below.call BR.out hbq)
     clear hbq;go_wp2_with fail
     go_roundw
     case rel=>exact ⟨k+1,by omega,by go_num,by rw [HF.out];exact OWq.out,BQ.out⟩
     case measure=>simp [intOf] <;> omega
  ·obtain rfl:k=NL:=by omega
   have htk:(st.ms (q:Int)).take k=st.ms (q:Int):=List.take_of_length_le (by rw [HNL.out];omega)
   have ow:=OW.out
   have hM:=HM.out
   rw [htk] at ow hM
   have p6:=HP5.out.tn (Tn.of (Q:=fun _=>False) BR.out) (fun _ h=>h.elim)
   obtain ⟨_,_,_,_,_,e6,_⟩:=p6.row
   have c6:=cell_of_row wr _ 1 _ _ _ e6
   have f6:=frozen_of_row wr _ 1 _ _ e6
   have hmm:∀ x ∈ (st.ms (q:Int)).filter (outP ad n),x ∈ st.ms (q:Int):=fun x hx=>(List.mem_filter.1 hx).1
   have p7:=p6.listed (H':=h.pr (q:Int)) rfl hM.symm (ow.slV pgEC (fun k hk=>by have h1:=HS4.out.mc.lt k hk;have h2:=HT5.out.size;omega)) (fun x hx=>p6.pg x (hmm x hx)) (fun x hx y hy e=>p6.inj x (hmm x hx) y (hmm y hy) e) (fun x hx=>p6.ne x (hmm x hx)) (fun x hx=>p6.no _ (.inr ⟨x,hmm x hx,rfl⟩))
   have t7:Tn ((h.pr (q:Int)).own (st.ms (q:Int))) w4 (wr.setCell ⟨(h.pr (q:Int)).b,1,none⟩ (.slice va M vc)):=(HT5.out.call BR.out).put (cell_grown1 _ _ _ _) (.inl (.inl rfl))
   obtain ⟨w7,hw7⟩:∃ y,wr.setCell ⟨(h.pr (q:Int)).b,1,none⟩ (.slice va M vc)=y:=⟨_,rfl⟩
   rw [hw7] at p7 t7;have HW7:=Lib.hid hw7
   have hdr:=turn_drops (o:=⟨3,(q:Int),ad,n,pr,d⟩) HI.out.ok.cf (HI.out.ok.cn (q:Int)) (HI.out.ok.wi (q:Int)) HTE.out rfl (fun x hx=>(HI.out.ok.pg (q:Int) x hx).2)
   rw [HRR.out] at hdr;rw [show (fun x:Int × List Int=>!decide (ad≤x.1∧x.1 < ad+n))=outP ad n from rfl] at hdr
   have hok:McOk { st with rs:=upd st.rs (q:Int) RR,ms:=upd st.ms (q:Int) ((st.ms (q:Int)).filter (outP ad n)) }:=ok_ms HI.out.ok HH.out HTO.out.1 HTO.out.2 ((HI.out.ok.srt (q:Int)).sublist List.filter_sublist) (fun x hx=>⟨(HI.out.ok.pg (q:Int) x (hmm x hx)).1,by
    rw [← hdr] at hx
    exact (List.mem_filter.1 hx).2⟩)
   clear htk ow hM p6 e6 hw7 hdr
   have hmk:=HS4.out.mc.proc (H':=h.pr (q:Int)) (R':=RR) (L':=((st.ms (q:Int)).filter (outP ad n))) HH.out t7 p7 hok rfl (fun k hk=>.inl (by rcases hk with e | ⟨x,hx,e⟩;exact .inl e;exact .inr ⟨x,(List.mem_filter.1 hx).1,e⟩)) (fun k hk=>hk) (fun k hk=>.inl hk) (fun k hk=>Nat.lt_of_lt_of_le (HS4.out.mc.lt k hk) t7.size)
   have HS5:=Lib.hid (HS4.out.turn hmk (t7.mono (fun k _ hk=>.inr (.inr ⟨_,HH.out,hk⟩))) (fun k hk=>hk) (fun k hk=>.inl hk) rfl (RmIn.proc_own HH.out (fun k hk=>.inl (by rcases hk with e | ⟨x,hx,e⟩;exact .inl e;exact .inr ⟨x,(List.mem_filter.1 hx).1,e⟩))))
   clear hmk;clear p7 t7 hok hmm
   obtain ⟨y0,y1,y2,y3⟩:=cells4a HS5.out.res
   have hf:∀ i,w7.frozen? ⟨w.heap.size+1,i,none⟩=false:=fun i=>frozen_of_row w7 (w.heap.size+1) i _ _ HS5.out.res
   have HF:=Lib.hid (HS5.out.fin (B:=w7.heap.size) HS5.out.lt (⟨0,0,[],[]⟩:Ans) (dv:=.slice none 0 0) (pv:=.slice none 0 0) (Owns.nil _ _ _ _) (Owns.nil _ _ _ _))
   skip
   go_wp2_with (rw [HW7.out])
   obtain ⟨r0,r1,r2,r3⟩:=cells4a HF.out.2.2.2.2
   unfold sets sets sets sets sets at r0 r1 r2 r3
   refine bodyPost_ret (v:=.agg #[.int .i64 (Ans.err (⟨0,0,[],[]⟩:Ans)),.int .i64 (Ans.pid (⟨0,0,[],[]⟩:Ans)),.slice none 0 0,.slice none 0 0]) (by simp [results,Tryz.results9,go_sem,r0,r1,r2,r3]) rfl ?_
   rw [HRR.out]
   exact ⟨_,_,_,rfl,HF.out.1,HF.out.2.1,HF.out.2.2.1,HF.out.2.2.2.1,HS5.out.hm,fun k hk=>(HS5.out.own k hk).imp id (fun h=>by omega)⟩
end
end Go.Proofs.YtoepnbfifjgpfaaGreat
