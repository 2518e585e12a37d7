/- The machine: a process like another one. The machine: pages that a process lets go. The machine: while an operation is done. -/
import Derived.Test.YtoepnbfifjgpfaaGreatMu0
import Derived.Test.YtoepnbfifjgpfaaGreatMu21
import Derived.Test.YtoepnbfifjgpfaaGreatMu3
import Derived.Test.YtoepnbfifjgpfaaGreatMu10
import Derived.WalkKit
import Derived.ProofKit
import Derived.BigQuiet
import Derived.Deep.QuietTactic
import Derived.Lib.Hide
import Derived.RegionTactic
import Derived.Test.YtoepnbfifjgpfaaGreatMu20
import Derived.Test.YtoepnbfifjgpfaaGreatMu17
import Derived.Test.YtoepnbfifjgpfaaGreatMu19
namespace Go.Proofs.YtoepnbfifjgpfaaGreat
set_option maxRecDepth 100000
open Go.RowKit
set_option linter.unusedSimpArgs false
/-- A process that has a part of another one's pages. -/
def fkQ (st:Mc) (out pid:Int) (q:Nat):Mc:={ st with ms:=upd st.ms out ((st.ms pid).take q) }
theorem fk_more {st : Mc} {out pid : Int} (hs : SrtP (st.ms pid)) {q : Nat} {x : Int × List Int} (hx : (st.ms pid)[q]? = some x) :
    { fkQ st out pid q with ms:=upd (fkQ st out pid q).ms out (pgSet ((fkQ st out pid q).ms out) x.1 x.2) }=fkQ st out pid (q+1):=by
  have e1:(fkQ st out pid q).ms out=(st.ms pid).take q:=upd_same _ _ _
  have e2:(st.ms pid).take (q+1)=(st.ms pid).take q ++ [x]:=by rw [List.take_add_one,hx];rfl
  rw [e1,pgSet_last (by rw [← e2];exact hs.sublist (List.take_sublist _ _)),← e2]
  unfold fkQ
  simp only
  rw [upd_upd]
theorem fk_start {st:Mc} {out pid:Int} (h:st.ms out=[]):fkQ st out pid 0=st:=by
  unfold fkQ
  rw [List.take_zero,← h,upd_id]
section
variable {No:Nat→Prop} {h:McH} {st:Mc} {w:World}
set_option maxHeartbeats 4000000 in
theorem fork_any (i : McIn w No h st) (pid : Int) (hp : (Lit.int .i64 pid).wf = true) (hhas : st.has pid = true) (k0 : Nat) (hf : firstF st.v st.pr = k0) (hk0 : k0 < st.pr) :
    Calls Tryz.prog 73 #[.pointer (some ⟨h.m,0,none⟩),.int .i64 pid] w fun e w'=>e = .returned (.int .i64 (k0:Int))∧McIn w' No h { st with v:=st.v ||| qbit k0,rs:=upd st.rs k0 (st.rs pid),ms:=upd st.ms k0 (st.ms pid) }∧Tn h.own w w':=by
  have hpr:=i.ok.prI
  have hcp:=i.ok.cf.procs
  have hnk:st.has (k0:Int)=false:=by
    have h1:=firstF_at st.v st.pr (by omega)
    unfold Mc.has hasB
    rw [hf] at h1
    simp [h1]
  have hne:pid ≠ (k0:Int):=fun e=>by rw [e,hnk] at hhas;cases hhas
  obtain ⟨g1,g2⟩:=i.ok.gone _ hnk
  have HTK:Hid (Calls Tryz.prog 67 #[.pointer (some ⟨h.sb,0,none⟩)] w fun e w'=>e = .returned (.tuple #[.int .i64 k0,.int .i64 0])∧SetAt w' h.sb st.pr (st.v ||| qbit k0)∧w.grownBy w' (some h.sb)):=by
    have hs:=i.set
    rw [← hpr] at hs
    exact take_yes h.sb st.pr k0 st.v w hs i.ok.prL.2 hf hk0
  obtain ⟨c4,c6,c7,c8,c9,c10,c11⟩:=i.cells
  have HI:=Lib.hid i;have HK:=Lib.hid hk0;have HP:=Lib.hid hp;have HHAS:=Lib.hid hhas;have HNE:=Lib.hid hne;have HG1:=Lib.hid g1;have HG2:=Lib.hid g2;have HNL:=Lib.hid i.no.2.1
  have HK0:Hid ((Lit.int .i64 (k0:Int)).wf=true):=WalkArith.wf_i64 ⟨by omega,by omega⟩
  have HPRI:=Lib.hid hpr;clear i hpr hcp hnk hne g1 g2 hf hk0 hp hhas c4 c6 c7 c8 c10 c11
  go_enter Tryz.func73,Tryz.ntmps73
  go_wp2_with fail
  refine HTK.out.mono ?_
  rintro e w3 ⟨rfl,hs3,hg3⟩
  rw [HPRI.out] at hs3
  have hi3:=HI.out.taken HK.out hs3 hg3
  have htn3:Tn h.own w w3:=(Tn.refl _ w).put hg3 (.inl (.inl rfl))
  obtain ⟨_,_,_,_,_,c10,c11⟩:=hi3.cells
  obtain ⟨D,E,e1,e2,e3,e4⟩:=hi3.dat
  obtain ⟨ra,rn,rc,hlk,hrr,_⟩:=hi3.lookRB pid HP.out
  have hrn:rn≤1000000:=by have:=hrr.len;have:=HI.out.few pid;replace hrr:(st.rs pid).length=rn:=hrr.len;omega
  have HI3:=Lib.hid hi3;have HTN3:=Lib.hid htn3;have HD:=Lib.hid e1;have HE2:=Lib.hid e2;have HE3:=Lib.hid e3;have HE4:=Lib.hid e4;have HLK:=Lib.hid hlk
  have HRR:Hid (RdS Rg.cells 3 w3 ra rn rc (st.rs pid)):=hrr
  have HRN:=Lib.hid hrn;have HNO:=Lib.hid hi3.lt
  have htl0:Tn (fun k=>k=h.lb) w3 w3.drew:=⟨rfl,rfl,rfl,Nat.le_refl _,fun _ _ _=>rfl⟩
  have hbl0:Below w3.heap.size w3 w3.drew:=⟨rfl,rfl,rfl,Nat.le_refl _,fun _ _=>rfl⟩
  clear hs3 hg3 hi3 htn3 e1 e2 e3 e4 hlk hrr hrn HTK c9;go_wp2_with fail
  refine' reg_order [eqV _,eqV _,eqV _,eqV _,eqV _,eqV _,eqV _,eqV _,eqV _,eqV _,eqV _,(fun v w5=>RgV w5 No v (st.rs pid)),(fun _ w5=>∃ v,MapG MR w5 h.lb (kput D (k0:Int) v)∧RgV w5 No v (st.rs pid))] [(12,fun w5 w6=>World.grownBy w5 w6 (some h.lb))] [(3,fun w5=>Below w3.heap.size w3 w5),(8,fun w5=>Below w3.heap.size w3 w5),(10,fun w5=>Below w3.heap.size w3 w5),(11,fun w5=>Below w3.heap.size w3 w5),(12,fun w5=>Below w3.heap.size w3 w5),(13,fun w5=>Tn (fun k=>k=h.lb) w3 w5)] [17,18,19,20,21,22,23,24,25,26,27,28,66] [[],[0],[1],[2],[],[],[5],[6],[7],[],[8,9],[10],[3,4,11]] [0,1,2,3,4,5,6,7,8,9,10,11,12] 13 (by kernel_rfl) ⟨eS _,eS _,eS _,eS _,eS _,eS _,eS _,eS _,eS _,eS _,eS _,fun _ _ _ p b=>p.below b,fun _ _ _ p b=>by obtain ⟨v,p1,p2⟩:=p;exact ⟨v,p1.at (b.block _ p1.lt),p2.below b⟩,trivial⟩ ⟨⟨.inl (eS _),.inl (eS _),.inl (eS _),.inl (eS _),.inl (eS _),.inl (eS _),.inl (eS _),.inl (eS _),.inl (eS _),.inl (eS _),.inl (eS _),.inl (fun _ _ _ p g=>RgV.grown p g HNL.out),.inr (.inr rfl),trivial⟩,trivial⟩ ⟨fun _ _ p b=>Below.call p b,fun _ _ p b=>Below.call p b,fun _ _ p b=>Below.call p b,fun _ _ p b=>Below.call p b,fun _ _ p b=>Below.call p b,fun _ _ p b=>Tn.call p b,trivial⟩ ⟨⟨.inr (.inl (by kernel_rfl)),.inr (.inl (by kernel_rfl)),.inr (.inl (by kernel_rfl)),.inr (.inl (by kernel_rfl)),.inr (.inr rfl),.inl (fun _ _ p g=>Tn.put p g (.inl rfl)),trivial⟩,trivial⟩ ⟨hbl0,hbl0,hbl0,hbl0,hbl0,htl0,trivial⟩ 54 rfl (by kernel_rfl) (by kernel_rfl) rfl rfl 13 rfl ?q1obl ?q1fin
  case q1obl=>
    refine ⟨?q1o0,?q1o1,?q1o2,?q1o3,?q1o4,?q1o5,?q1o6,?q1o7,?q1o8,?q1o9,?q1o10,?q1o11,?q1o12,trivial⟩
    case q1o0 | q1o4 | q1o5 | q1o9=>
     intro w1 hI;refine t2o (by rfl) ?_;intro K hK;go_simp;refine hK _ _ ⟨rfl,Kept.refl _,?_⟩;show _=_;simp only [gv1];rfl
    case q1o1 | q1o2=>
     intro w1 hI;intro va ha;change _=_ at ha;subst va;refine t2o (by rfl) ?_;intro K hK;simp only [gv2];go_simp;refine hK _ _ ⟨rfl,Kept.refl _,?_⟩;show _=_;simp only [gv1];rfl
    case q1o3=>
      intro w1 hI
      replace hI:(fun w5=>Below w3.heap.size w3 w5) w1:=hI
      intro v2 h2;change _=_ at h2;subst v2;refine t2o (by rfl) ?_;intro K hK;simp only [gv2]
      have hcc:=cel hI c10
      go_simp;refine hK _ _ ⟨rfl,Kept.refl _,?_⟩;show _=_;simp only [gv1];rfl
    case q1o6 | q1o7=>
     intro w1 hI;intro va ha;change _=_ at ha;subst va;refine t2o (by rfl) ?_;intro K hK;simp only [gv2];go_simp;refine hK _ _ ⟨rfl,Kept.refl _,?_⟩;show _=_;simp only [gv1];rfl
    case q1o8=>
      intro w1 hI
      replace hI:(fun w5=>Below w3.heap.size w3 w5) w1:=hI
      intro v7 h7;change _=_ at h7;subst v7;refine t2o (by rfl) ?_;intro K hK;simp only [gv2]
      have hcc:=cel hI c10
      go_simp;refine hK _ _ ⟨rfl,Kept.refl _,?_⟩;show _=_;simp only [gv1];rfl
    case q1o10=>
      intro w1 hI
      replace hI:(fun w5=>Below w3.heap.size w3 w5) w1:=hI
      intro v8 h8;change _=_ at h8;subst v8;intro v9 h9;change _=_ at h9;subst v9;refine t2o (by rfl) ?_;intro K hK;simp only [gv2]
      have hlk:=HLK.out w1 hI
      go_simp;refine hK _ _ ⟨rfl,Kept.refl _,?_⟩;show _=_;simp only [gv1];rfl
    case q1o11=>
      intro w1 hI
      replace hI:(fun w5=>Below w3.heap.size w3 w5) w1:=hI
      intro v10 h10;change _=_ at h10;subst v10;refine t2o (by rfl) ?_;intro K hK;simp only [gv2];go_simp
      refine (cloneR_any ra rn rc (st.rs pid) w1 (HRR.out.below hI) HRN.out).mono ?_
      rintro e w2 ⟨vv,rfl,ho2,hb2⟩
      refine hK _ _ ⟨rfl,hb2,?_⟩
      show RgV _ _ _ _
      simp only [gv1]
      exact ho2.rgV (fun k hk=>Nat.lt_of_lt_of_le (HNO.out k hk) hI.size)
    case q1o12=>
      intro w1 hI
      replace hI:(fun w5=>Below w3.heap.size w3 w5) w1:=hI
      intro v3 h3;change _=_ at h3;subst v3;intro v4 h4;change _=_ at h4;subst v4;intro v11 h11
      replace h11:RgV _ No v11 (st.rs pid):=h11
      refine t2o (by rfl) ?_;intro K hK;simp only [gv2]
      obtain ⟨w9,hrun9,hM9,hg9,_⟩:=mg_put (HD.out.at (hI.block _ HD.out.lt)) (k0:Int) v11 HK0.out
      replace hrun9:(Instr.mapUpdate 98 (.map (some h.lb)) (.int .i64 (k0:Int)) v11).run Tryz.prog w1 = .ok () w9:=hrun9
      go_simp
      refine hK _ _ ⟨rfl,hg9,?_⟩
      exact ⟨v11,hM9,RgV.grown h11 hg9 HNL.out⟩
  intro w4 hI
  replace hI:(fun w5=>Tn (fun k=>k=h.lb) w3 w5) w4:=hI
  intro v0 h0;change _=_ at h0;subst v0;intro v1 h1;change _=_ at h1;subst v1;intro v2 h2;change _=_ at h2;subst v2;intro v3 h3;change _=_ at h3;subst v3;intro v4 h4;change _=_ at h4;subst v4;intro v5 h5;change _=_ at h5;subst v5;intro v6 h6;change _=_ at h6;subst v6;intro v7 h7;change _=_ at h7;subst v7;intro v8 h8;change _=_ at h8;subst v8;intro v9 h9
  change _=_ at h9;subst v9;intro v10 h10;change _=_ at h10;subst v10;intro v11 h11
  replace h11:RgV _ No v11 (st.rs pid):=h11
  intro v12 h12
  simp only [Given,gv2]
  obtain ⟨vv,hM4,hv4⟩:=h12
  have hhk:hasB st.c.procs (st.v ||| qbit k0) (k0:Int)=true:=by rw [has_put (by have:=HK.out;have:=HPRI.out;omega) HI.out.ok.cf.procs.2];simp
  have hhp:hasB st.c.procs (st.v ||| qbit k0) pid=true:=by
    rw [has_put (by have:=HK.out;have:=HPRI.out;omega) HI.out.ok.cf.procs.2]
    have:=HHAS.out
    unfold Mc.has at this
    rw [this];rfl
  have hi4:=McIn.laid HI3.out HE2.out HE3.out HE4.out (p:=(k0:Int)) (L:=st.rs pid) hhk (HI.out.ok.cn pid) (HI.out.ok.wi pid) (fun x hx=>by replace hx:x ∈ st.ms (k0:Int):=hx;rw [HG2.out] at hx;cases hx) hM4 hI hv4
  have htn4:Tn h.own w w4:=HTN3.out.trans (hI.mono (fun k _ e=>.inr (.inl e)))
  obtain ⟨st2,hst2⟩:∃ s:Mc,{ st with v:=st.v ||| qbit k0,rs:=upd st.rs k0 (st.rs pid) }=s:=⟨_,rfl⟩
  have hi4':McIn w4 No h st2:=by rw [← hst2];exact hi4
  have hms:st2.ms=st.ms:=by rw [← hst2]
  have hrs:st2.rs k0=st.rs pid:=by rw [← hst2];exact upd_same _ _ _
  have hcc:st2.c=st.c:=by rw [← hst2]
  have hh2:st2.has k0=true:=by rw [← hst2];exact hhk
  have hcs:=stored_any hi4' pid
  rw [hms] at hcs;have HCS:=Lib.hid hcs;have HI4:=Lib.hid hi4';have HTN4:=Lib.hid htn4;have HST2:=Lib.hid hst2;have HMS:=Lib.hid hms;have HRS:=Lib.hid hrs;have HCC:=Lib.hid hcc;have HH2:=Lib.hid hh2;clear hI hM4 hv4 hhk hhp hi4 hi4' htn4 hst2 hms hrs hcc hh2 hcs HI3 HTN3 HD HE2 HE3 HE4 HLK HRR HRN HNO htl0 hbl0 c10 c11 D E;go_wp2_with fail
  refine HCS.out.mono ?_
  rintro e w5 ⟨vk,rfl,hok,hbk⟩
  obtain ⟨N,hN⟩:∃ N,(st.ms pid).length=N:=⟨_,rfl⟩
  obtain ⟨ka,kc,rfl⟩:=hok.shapeN N (by rw [List.length_map,hN])
  have hst5:McIn w5 No h (fkQ st2 k0 pid 0)∧Tn h.own w w5∧RdAt .i64 w5 ka N kc ((st.ms pid).map Prod.fst):=by
    refine ⟨?_,HTN4.out.call hbk,hok.rd⟩
    rw [fk_start (by rw [HMS.out];exact HG2.out)]
    exact HI4.out.below hbk
  have hkx:∀ x,ka=some x→0 < N→¬ h.own x.block:=fun x hx h0 ho=>by
    have h1:=hok.blk x hx h0
    have h2:No x.block:=by
      rcases ho with e | e | e
      · rw [e];exact HI4.out.no.1
      · rw [e];exact HI4.out.no.2.1
      · rw [e];exact HI4.out.no.2.2.1
    have:=HI4.out.lt _ h2
    omega
  have ST:=Lib.hid hst5;have HKX0:=Lib.hid hkx;have HN:=Lib.hid hN
  have hNb:N≤65536:=by rw [← hN];exact HI.out.ok.few pid
  clear hok hbk hst5 hkx hN HCS HI4 HTN4;go_wp2_with fail
  go_loopw [33] (fun iv wr=>∃ q:Nat,q≤N∧iv = .int .i64 q∧Hid (McIn wr No h (fkQ st2 k0 pid q)∧Tn h.own w wr∧RdAt .i64 wr ka N kc ((st.ms pid).map Prod.fst))) (fun iv _=>N - (intOf iv).toNat)
  case atStart=>exact ⟨0,by omega,rfl,ST⟩
  case round=>
    clear ST
    obtain ⟨q,hq,rfl,HR⟩:=hrel
    by_cases hlt:q < N
    · have dl:decide ((q:Int) < (N:Int))=true:=decide_eq_true (by omega)
      have hqN:q < (st.ms pid).length:=by have:=HN.out;omega
      have hxx:(st.ms pid)[q]?=some (st.ms pid)[q]:=List.getElem?_eq_getElem hqN
      obtain ⟨⟨x1,xb⟩,hx1⟩:∃ x,(st.ms pid)[q]?=some x:=⟨_,hxx⟩
      have hmem:(x1,xb) ∈ st.ms pid:=List.mem_of_getElem? hx1
      have hi:=HR.out.1
      have hmsp:(fkQ st2 k0 pid q).ms pid=st.ms pid:=by
        show upd st2.ms (k0:Int) _ pid=_
        rw [upd_other _ _ HNE.out,HMS.out]
      obtain ⟨D,E,e1,e2,e3,e4⟩:=hi.dat
      obtain ⟨xv,hxv⟩:=e4.has pid (x1,xb) (by rw [hmsp];exact hmem)
      obtain ⟨b2,hb2,hpv⟩:=e4.all _ hxv
      rw [hmsp] at hb2
      have hbb:b2=xb:=by
        have h1:=(kget_iff (HI.out.ok.srt pid)).2 hb2
        rw [(kget_iff (HI.out.ok.srt pid)).2 hmem] at h1
        injection h1 with h1
        exact h1.symm
      subst hbb
      have hwx:(Lit.int .i64 x1).wf=true:=by
        have h1:=find_in (HI.out.ok.pg pid _ hmem).2 (HI.out.ok.wi pid)
        have h2:=HI.out.ok.cf.pages
        exact WalkArith.wf_i64 ⟨by omega,by omega⟩
      have hget:kget E (pid,x1)=some xv:=kget_some e2.nodup hxv
      have hlk:∀ w',Below wr.heap.size wr w'→(Instr.lookup 99 (.map (some h.pb)) (.agg #[.int .i64 pid,.int .i64 x1]) false).run Tryz.prog w' = .ok xv w':=fun w' b=>by
        have:=mg_look (e2.at (b.block _ e2.lt)) (pid,x1) ⟨HP.out,hwx⟩
        rw [hget] at this
        exact this
      obtain ⟨_,_,_,_,_,c10,c11⟩:=hi.cells
      have hrd:=HR.out.2.2
      obtain ⟨gb,go,rfl,hcq⟩:=hrd.cell q hlt
      have hnx:nth ((st.ms pid).map Prod.fst) q=x1:=by
        unfold nth List.getD
        rw [List.getElem?_map,hx1];rfl
      rw [hnx] at hcq;have HI6:=Lib.hid hi;have HE:=Lib.hid e2
      have HED:=Lib.hid (And.intro e1 (And.intro e3 e4))
      have HPV:=Lib.hid hpv;have HLK:=Lib.hid hlk
      have HKX:Hid ((Lit.int .i64 (k0:Int)).wf=true∧(Lit.int .i64 x1).wf=true):=⟨HK0.out,hwx⟩
      have HX1:=Lib.hid hx1;have HMEM:=Lib.hid hmem
      have hq1:(q:Int) < (N:Int):=by omega
      have hq2:(0:Int)≤(q:Int):=by omega
      have htp0:Tn (fun k=>k=h.pb) wr wr.drew:=⟨rfl,rfl,rfl,Nat.le_refl _,fun _ _ _=>rfl⟩
      have hbl0:Below wr.heap.size wr wr.drew:=⟨rfl,rfl,rfl,Nat.le_refl _,fun _ _=>rfl⟩
      clear hxx hx1 hmem hi hmsp e1 e2 e3 e4 hxv hb2 hpv hwx hget hlk hrd hnx;go_wp2_with fail
      refine' reg_order [eqV _,eqV _,eqV _,eqV _,eqV _,eqV _,eqV _,eqV _,eqV _,eqV _,eqV _,eqV _,eqV _,eqV _,eqV _,(fun _ w5=>MapG MP w5 h.pb (kput E ((k0:Int),x1) xv))] [(15,fun w5 w6=>World.grownBy w5 w6 (some h.pb))] [(3,fun w5=>Below wr.heap.size wr w5),(10,fun w5=>Below wr.heap.size wr w5),(14,fun w5=>Below wr.heap.size wr w5),(15,fun w5=>Below wr.heap.size wr w5),(16,fun w5=>Tn (fun k=>k=h.pb) wr w5)] [37,38,39,40,41,42,43,44,45,46,47,48,49,50,51,69] [[],[0],[1],[2],[],[],[4,5],[],[7],[8],[9],[],[],[11,12],[10,13],[3,6,14]] [0,1,2,3,4,5,6,7,8,9,10,11,12,13,14,15] 16 (by kernel_rfl) ⟨eS _,eS _,eS _,eS _,eS _,eS _,eS _,eS _,eS _,eS _,eS _,eS _,eS _,eS _,eS _,fun _ _ _ p b=>p.at (b.block _ p.lt),trivial⟩ ⟨⟨.inl (eS _),.inl (eS _),.inl (eS _),.inl (eS _),.inl (eS _),.inl (eS _),.inl (eS _),.inl (eS _),.inl (eS _),.inl (eS _),.inl (eS _),.inl (eS _),.inl (eS _),.inl (eS _),.inl (eS _),.inr (.inr rfl),trivial⟩,trivial⟩ ⟨fun _ _ p b=>Below.call p b,fun _ _ p b=>Below.call p b,fun _ _ p b=>Below.call p b,fun _ _ p b=>Below.call p b,fun _ _ p b=>Tn.call p b,trivial⟩ ⟨⟨.inr (.inl (by kernel_rfl)),.inr (.inl (by kernel_rfl)),.inr (.inl (by kernel_rfl)),.inr (.inr rfl),.inl (fun _ _ p g=>Tn.put p g (.inl rfl)),trivial⟩,trivial⟩ ⟨hbl0,hbl0,hbl0,hbl0,htp0,trivial⟩ 54 rfl (by kernel_rfl) (by kernel_rfl) rfl rfl 16 rfl ?q2obl ?q2fin
      case q2obl=>
        refine ⟨?q2o0,?q2o1,?q2o2,?q2o3,?q2o4,?q2o5,?q2o6,?q2o7,?q2o8,?q2o9,?q2o10,?q2o11,?q2o12,?q2o13,?q2o14,?q2o15,trivial⟩
        case q2o0 | q2o4 | q2o5 | q2o7 | q2o11 | q2o12=>
         intro w1 hI;refine t2o (by rfl) ?_;intro K hK;go_simp;refine hK _ _ ⟨rfl,Kept.refl _,?_⟩;show _=_;simp only [gv1];rfl
        case q2o1 | q2o2=>
         intro w1 hI;intro va ha;change _=_ at ha;subst va;refine t2o (by rfl) ?_;intro K hK;simp only [gv2];go_simp;refine hK _ _ ⟨rfl,Kept.refl _,?_⟩;show _=_;simp only [gv1];rfl
        case q2o3=>
          intro w1 hI
          replace hI:(fun w5=>Below wr.heap.size wr w5) w1:=hI
          intro v2 h2;change _=_ at h2;subst v2;refine t2o (by rfl) ?_;intro K hK;simp only [gv2]
          have hcc:=cel hI c11
          go_simp;refine hK _ _ ⟨rfl,Kept.refl _,?_⟩;show _=_;simp only [gv1];rfl
        case q2o6=>
         intro w1 hI;intro va ha;change _=_ at ha;subst va;intro vb hb;change _=_ at hb;subst vb;refine t2o (by rfl) ?_;intro K hK;simp only [gv2];go_simp;refine hK _ _ ⟨rfl,Kept.refl _,?_⟩;show _=_;simp only [gv1];rfl
        case q2o8 | q2o9=>
         intro w1 hI;intro va ha;change _=_ at ha;subst va;refine t2o (by rfl) ?_;intro K hK;simp only [gv2];go_simp;refine hK _ _ ⟨rfl,Kept.refl _,?_⟩;show _=_;simp only [gv1];rfl
        case q2o10=>
          intro w1 hI
          replace hI:(fun w5=>Below wr.heap.size wr w5) w1:=hI
          intro v9 h9;change _=_ at h9;subst v9;refine t2o (by rfl) ?_;intro K hK;simp only [gv2]
          have hcc:=cel hI c11
          go_simp;refine hK _ _ ⟨rfl,Kept.refl _,?_⟩;show _=_;simp only [gv1];rfl
        case q2o13=>
         intro w1 hI;intro va ha;change _=_ at ha;subst va;intro vb hb;change _=_ at hb;subst vb;refine t2o (by rfl) ?_;intro K hK;simp only [gv2];go_simp;refine hK _ _ ⟨rfl,Kept.refl _,?_⟩;show _=_;simp only [gv1];rfl
        case q2o14=>
          intro w1 hI
          replace hI:(fun w5=>Below wr.heap.size wr w5) w1:=hI
          intro v10 h10;change _=_ at h10;subst v10;intro v13 h13;change _=_ at h13;subst v13;refine t2o (by rfl) ?_;intro K hK;simp only [gv2]
          have hlk:=HLK.out w1 hI
          go_simp;refine hK _ _ ⟨rfl,Kept.refl _,?_⟩;show _=_;simp only [gv1];rfl
        case q2o15=>
          intro w1 hI
          replace hI:(fun w5=>Below wr.heap.size wr w5) w1:=hI
          intro v3 h3;change _=_ at h3;subst v3;intro v6 h6;change _=_ at h6;subst v6;intro v14 h14;change _=_ at h14;subst v14;refine t2o (by rfl) ?_;intro K hK;simp only [gv2]
          obtain ⟨w9,hrun9,hM9,hg9,_⟩:=mg_put (HE.out.at (hI.block _ HE.out.lt)) ((k0:Int),x1) xv HKX.out
          replace hrun9:(Instr.mapUpdate 99 (.map (some h.pb)) (.agg #[.int .i64 (k0:Int),.int .i64 x1]) xv).run Tryz.prog w1 = .ok () w9:=hrun9
          go_simp
          refine hK _ _ ⟨rfl,hg9,?_⟩
          exact hM9
      intro w4 hI
      replace hI:(fun w5=>Tn (fun k=>k=h.pb) wr w5) w4:=hI
      intro v0 h0;change _=_ at h0;subst v0;intro v1 h1;change _=_ at h1;subst v1;intro v2 h2;change _=_ at h2;subst v2;intro v3 h3;change _=_ at h3;subst v3;intro v4 h4;change _=_ at h4;subst v4;intro v5 h5;change _=_ at h5;subst v5;intro v6 h6;change _=_ at h6;subst v6;intro v7 h7;change _=_ at h7;subst v7;intro v8 h8;change _=_ at h8;subst v8;intro v9 h9
      change _=_ at h9;subst v9;intro v10 h10;change _=_ at h10;subst v10;intro v11 h11;change _=_ at h11;subst v11;intro v12 h12;change _=_ at h12;subst v12;intro v13 h13;change _=_ at h13;subst v13;intro v14 h14;change _=_ at h14;subst v14;intro v15 h15
      simp only [Given,gv2]
      have hi7:=McIn.stored HI6.out HED.out.1 HED.out.2.1 HED.out.2.2 (p:=(k0:Int)) (n:=x1) (b:=b2) HH2.out (by show findB (st2.rs k0) x1=true;rw [HRS.out];exact (HI.out.ok.pg pid _ HMEM.out).2) (by show PgOk st2.c.page b2;rw [HCC.out];exact (HI.out.ok.pg pid _ HMEM.out).1) h15 hI (HPV.out.tn hI (fun k e=>by rw [e];exact HI6.out.no.2.2.1))
      have hmo:=fk_more (st:=st2) (out:=(k0:Int)) (pid:=pid) (x:=(x1,b2)) (q:=q) (by rw [HMS.out];exact HI.out.ok.srt pid) (by rw [HMS.out];exact HX1.out)
      have HR2:Hid (McIn w4 No h (fkQ st2 k0 pid (q+1))∧Tn h.own w w4∧RdAt .i64 w4 (some ⟨gb,go,none⟩) N kc ((st.ms pid).map Prod.fst)):=by
        refine ⟨?_,HR.out.2.1.trans (hI.mono (fun k _ e=>.inr (.inr e))),HR.out.2.2.tn hI (fun x hx h0 e=>HKX0.out x hx h0 (.inr (.inr e)))⟩
        rw [← hmo]
        exact hi7
      clear hi7 hmo hI h15 htp0 hbl0 c10 c11 hcq
      go_wp2
      go_roundw
      case rel=>exact ⟨q+1,by omega,by go_num,HR2⟩
      case measure=>simp [intOf] <;> omega
    · obtain rfl:q=N:=by omega
      have dl:decide ((q:Int) < (q:Int))=false:=decide_eq_false (by omega)
      have hfin:McIn wr No h { st with v:=st.v ||| qbit k0,rs:=upd st.rs k0 (st.rs pid),ms:=upd st.ms k0 (st.ms pid) }:=by
        have h1:=HR.out.1
        unfold fkQ at h1
        rw [HMS.out,List.take_of_length_le (by rw [HN.out];exact Nat.le_refl _)] at h1
        rw [← HST2.out] at h1
        exact h1
      have HF:=Lib.hid hfin;clear hfin
      go_wp2
      go_ret
      exact ⟨rfl,HF.out,HR.out.2.1⟩
end
set_option maxHeartbeats 1000000 in
theorem gone1_any (L : List Rg) (a : Option Addr) (n c xb : Nat) (x : Int) (w : World) (hc : w.cell? ⟨xb, 0, none⟩ = some (.slice a n c)) (hr : RdS Rg.cells 3 w a n c L) (hn : n ≤ 1000) :
    Calls Tryz.prog 69 #[.int .i64 x,.pointer (some ⟨xb,0,none⟩)] w fun e w'=>e = .returned (.bool (!findB L x))∧Below w.heap.size w w':=by
  obtain ⟨r,hrr⟩:∃ r,findR L x=r:=⟨_,rfl⟩
  have hf:=find_any a n c L x w hr hn
  rw [hrr] at hf
  obtain ⟨r0,r1,r2⟩:=r
  obtain ⟨B,hB⟩:∃ B,findB L x=B:=⟨_,rfl⟩
  rw [hB] at hf ⊢;have HF:=Lib.hid hf;clear hf hr hrr hB
  go_enter Tryz.func69,Tryz.ntmps69
  go_wp2_with fail
  refine HF.out.mono ?_
  rintro e w2 ⟨rfl,hb⟩
  have HB:=Lib.hid (Below.more hb (.cells #[.int .i64 r0,.int .i64 r1,.int .i64 r2] 110))
  clear hb
  unfold Rg.val
  go_wp2
  go_ret
  exact ⟨rfl,HB.out⟩
theorem gone2_any (x:Int) (w:World):Calls Tryz.prog 75 #[.int .i64 x] w fun e w'=>e = .returned (.bool true)∧Below w.heap.size w w':=by
  go_enter Tryz.func75,Tryz.ntmps75
  go_wp2
  go_ret
  exact ⟨rfl,Below.refl _ _⟩
set_option maxHeartbeats 1000000 in
theorem forget1_1 (L : List Rg) (a : Option Addr) (n c xb : Nat) (qb gb : Nat) (pid : Int) (p : Int × Int) (v : Value) (w : World) (hq : w.cell? ⟨qb, 0, none⟩ = some (.int .i64 pid)) (hg : w.cell? ⟨gb, 0, none⟩ = some (.func (.func 69) #[] #[.pointer (some ⟨xb, 0, none⟩)])) (hc : w.cell? ⟨xb, 0, none⟩ = some (.slice a n c)) (hr : RdS Rg.cells 3 w a n c L) (hn : n ≤ 1000) :
    Calls Tryz.prog 94 #[.agg #[.int .i64 p.1,.int .i64 p.2],v,.pointer (some ⟨qb,0,none⟩),.pointer (some ⟨gb,0,none⟩)] w fun e w'=>e = .returned (.bool (decide (p.1=pid) && !findB L p.2))∧Below w.heap.size w w':=by
  obtain ⟨p1,p2⟩:=p
  dsimp only
  have hb0:=below_a w (.cells #[.int .i64 p1,.int .i64 p2] 107)
  have hq1:(w.alloc (.cells #[.int .i64 p1,.int .i64 p2] 107)).cell? ⟨qb,0,none⟩=some (.int .i64 pid):=cel hb0 hq
  have hg1:(w.alloc (.cells #[.int .i64 p1,.int .i64 p2] 107)).cell? ⟨gb,0,none⟩=some (.func (.func 69) #[] #[.pointer (some ⟨xb,0,none⟩)]):=cel hb0 hg
  by_cases e:p1=pid
  · subst e
    have d:decide (p1=p1)=true:=decide_eq_true rfl
    have bd:(p1 == p1)=true:=by simp
    rw [d]
    have HC:=Lib.hid (gone1_any L a n c xb p2 (w.alloc (.cells #[.int .i64 p1,.int .i64 p2] 107)) (cel hb0 hc) (hr.alloc _) hn)
    have HB:=Lib.hid hb0;clear hq hg hb0 hc hr
    go_enter Tryz.func94,Tryz.ntmps94
    go_wp2_with fail
    refine HC.out.mono ?_
    rintro e w2 ⟨rfl,hb⟩
    have HB2:=Lib.hid (Below.call HB.out hb)
    clear hb
    go_wp2
    go_ret
    exact ⟨by simp,HB2.out⟩
  · have d:decide (p1=pid)=false:=decide_eq_false e
    have bd:(p1 == pid)=false:=by simpa using e
    rw [d];have HB:=Lib.hid hb0;clear hq hg hb0 hc hr
    go_enter Tryz.func94,Tryz.ntmps94
    go_wp2
    go_ret
    exact ⟨by simp,HB.out⟩
set_option maxHeartbeats 1000000 in
theorem forget_1 (L : List Rg) (a : Option Addr) (n c xb : Nat) (mb pb : Nat) (pid : Int) (E : List ((Int × Int) × Value)) (w : World) (hm : w.cell? ⟨mb, 11, none⟩ = some (.map (some pb))) (hE : MapG MP w pb E) (hc : w.cell? ⟨xb, 0, none⟩ = some (.slice a n c)) (hr : RdS Rg.cells 3 w a n c L) (hn : n ≤ 1000) (hx : ∀ x, a = some x → 0 < n → x.block ≠ pb) (hxb : xb ≠ pb) :
    Calls Tryz.prog 68 #[.pointer (some ⟨mb,0,none⟩),.int .i64 pid,(.func (.func 69) #[] #[.pointer (some ⟨xb,0,none⟩)])] w fun e w'=>e = .returned (.tuple #[])∧MapG MP w' pb (E.filter fun p=>!(decide (p.1.1=pid) && !findB L p.1.2))∧Tn (fun k=>k=pb) w w':=by
  have hlt:=hE.lt
  have hb1:=below_a2 w (.cells #[.int .i64 pid] 3) (.cells #[(.func (.func 69) #[] #[.pointer (some ⟨xb,0,none⟩)])] 91)
  have hE2:MapG MP ((w.alloc (.cells #[.int .i64 pid] 3)).alloc (.cells #[(.func (.func 69) #[] #[.pointer (some ⟨xb,0,none⟩)])] 91)) pb E:=hE.at (hb1.block pb hlt)
  have hm2:=cel hb1 hm
  have r0:=al2_0 w (.cells #[.int .i64 pid] 3) (.cells #[(.func (.func 69) #[] #[.pointer (some ⟨xb,0,none⟩)])] 91)
  have r1:=al2_1 w (.cells #[.int .i64 pid] 3) (.cells #[(.func (.func 69) #[] #[.pointer (some ⟨xb,0,none⟩)])] 91)
  have hc2:=cel hb1 hc
  have hr2:=hr.below hb1
  have hcall:=delfunc_any (fun p=>decide (p.1=pid) && !findB L p.2) pb w.heap.size (w.heap.size+1) E _ hE2 (fun W p v t=>by
    have q0:=row_tn r0 t (by omega)
    have q1:=row_tn r1 t (by omega)
    exact forget1_1 L a n c xb w.heap.size (w.heap.size+1) pid p v W (cell_of_row W _ 0 _ _ _ q0) (cell_of_row W _ 0 _ _ _ q1) (by rw [← hc2];exact World.cell?_of_block (a:=⟨xb,0,none⟩) (t.block xb (block_lt_of_cell hc2) hxb)) (hr2.tn t hx) hn)
  have HC:=Lib.hid hcall;have HB:=Lib.hid hb1;clear hcall hE hE2 r0 r1 hb1 hlt hc hr hc2 hr2
  go_enter Tryz.func68,Tryz.ntmps68
  go_wp2_with fail
  refine HC.out.mono ?_
  rintro e w2 ⟨rfl,hM,ht⟩
  have HM:=Lib.hid hM
  have HT:=Lib.hid ((Tn.of (Q:=fun k=>k=pb) HB.out).trans ht)
  clear hM ht
  go_wp2
  go_end0
  exact ⟨rfl,HM.out,HT.out⟩
set_option maxHeartbeats 1000000 in
theorem forget1_2 (qb gb : Nat) (pid : Int) (p : Int × Int) (v : Value) (w : World) (hq : w.cell? ⟨qb, 0, none⟩ = some (.int .i64 pid)) (hg : w.cell? ⟨gb, 0, none⟩ = some (.func (.func 75) #[] #[])) :
    Calls Tryz.prog 94 #[.agg #[.int .i64 p.1,.int .i64 p.2],v,.pointer (some ⟨qb,0,none⟩),.pointer (some ⟨gb,0,none⟩)] w fun e w'=>e = .returned (.bool (decide (p.1=pid) && true))∧Below w.heap.size w w':=by
  obtain ⟨p1,p2⟩:=p
  dsimp only
  have hb0:=below_a w (.cells #[.int .i64 p1,.int .i64 p2] 107)
  have hq1:(w.alloc (.cells #[.int .i64 p1,.int .i64 p2] 107)).cell? ⟨qb,0,none⟩=some (.int .i64 pid):=cel hb0 hq
  have hg1:(w.alloc (.cells #[.int .i64 p1,.int .i64 p2] 107)).cell? ⟨gb,0,none⟩=some (.func (.func 75) #[] #[]):=cel hb0 hg
  by_cases e:p1=pid
  · subst e
    have d:decide (p1=p1)=true:=decide_eq_true rfl
    have bd:(p1 == p1)=true:=by simp
    rw [d]
    have HC:=Lib.hid (gone2_any p2 (w.alloc (.cells #[.int .i64 p1,.int .i64 p2] 107)))
    have HB:=Lib.hid hb0;clear hq hg hb0
    go_enter Tryz.func94,Tryz.ntmps94
    go_wp2_with fail
    refine HC.out.mono ?_
    rintro e w2 ⟨rfl,hb⟩
    have HB2:=Lib.hid (Below.call HB.out hb)
    clear hb
    go_wp2
    go_ret
    exact ⟨by simp,HB2.out⟩
  · have d:decide (p1=pid)=false:=decide_eq_false e
    have bd:(p1 == pid)=false:=by simpa using e
    rw [d];have HB:=Lib.hid hb0;clear hq hg hb0
    go_enter Tryz.func94,Tryz.ntmps94
    go_wp2
    go_ret
    exact ⟨by simp,HB.out⟩
set_option maxHeartbeats 1000000 in
theorem forget_2 (mb pb : Nat) (pid : Int) (E : List ((Int × Int) × Value)) (w : World) (hm : w.cell? ⟨mb, 11, none⟩ = some (.map (some pb))) (hE : MapG MP w pb E) :
    Calls Tryz.prog 68 #[.pointer (some ⟨mb,0,none⟩),.int .i64 pid,(.func (.func 75) #[] #[])] w fun e w'=>e = .returned (.tuple #[])∧MapG MP w' pb (E.filter fun p=>!(decide (p.1.1=pid) && true))∧Tn (fun k=>k=pb) w w':=by
  have hlt:=hE.lt
  have hb1:=below_a2 w (.cells #[.int .i64 pid] 3) (.cells #[(.func (.func 75) #[] #[])] 91)
  have hE2:MapG MP ((w.alloc (.cells #[.int .i64 pid] 3)).alloc (.cells #[(.func (.func 75) #[] #[])] 91)) pb E:=hE.at (hb1.block pb hlt)
  have hm2:=cel hb1 hm
  have r0:=al2_0 w (.cells #[.int .i64 pid] 3) (.cells #[(.func (.func 75) #[] #[])] 91)
  have r1:=al2_1 w (.cells #[.int .i64 pid] 3) (.cells #[(.func (.func 75) #[] #[])] 91)
  have hcall:=delfunc_any (fun p=>decide (p.1=pid) && true) pb w.heap.size (w.heap.size+1) E _ hE2 (fun W p v t=>by
    have q0:=row_tn r0 t (by omega)
    have q1:=row_tn r1 t (by omega)
    exact forget1_2 w.heap.size (w.heap.size+1) pid p v W (cell_of_row W _ 0 _ _ _ q0) (cell_of_row W _ 0 _ _ _ q1))
  have HC:=Lib.hid hcall;have HB:=Lib.hid hb1;clear hcall hE hE2 r0 r1 hb1 hlt
  go_enter Tryz.func68,Tryz.ntmps68
  go_wp2_with fail
  refine HC.out.mono ?_
  rintro e w2 ⟨rfl,hM,ht⟩
  have HM:=Lib.hid hM
  have HT:=Lib.hid ((Tn.of (Q:=fun k=>k=pb) HB.out).trans ht)
  clear hM ht
  go_wp2
  go_end0
  exact ⟨rfl,HM.out,HT.out⟩
theorem cells4a {w:World} {b T:Nat} {x0 x1 x2 x3:Value} (h:w.heap[b]?=some (.cells #[x0,x1,x2,x3] T (0,0))):w.cell? ⟨b,0,none⟩=some x0∧w.cell? ⟨b,1,none⟩=some x1∧w.cell? ⟨b,2,none⟩=some x2∧w.cell? ⟨b,3,none⟩=some x3:=
  ⟨cell_of_row w b 0 _ _ _ h,cell_of_row w b 1 _ _ _ h,cell_of_row w b 2 _ _ _ h,cell_of_row w b 3 _ _ _ h⟩
/-- What may turn, and one block more. -/
def NoB (No:Nat→Prop) (b:Nat):Nat→Prop:=fun k=>No k∨k=b
/-- A machine of which less may turn. -/
theorem McIn.less {w:World} {No No':Nat→Prop} {h:McH} {st:Mc} (i:McIn w No' h st) (h1:∀ k,No k→No' k) (h2:No h.sb∧No h.lb∧No h.pb):McIn w No h st:=by
  have q:∀ k,k < w.heap.size→No k→No' k:=fun k _ hn=>h1 k hn
  obtain ⟨D,E,e1,e2,e3,e4⟩:=i.dat
  exact ⟨i.row,i.set,⟨D,E,e1,e2,⟨fun p hp=>⟨(e3.all p hp).1,(e3.all p hp).2.reno q⟩,e3.gone⟩,⟨fun p hp=>by obtain ⟨b,hb,hv⟩:=e4.all p hp;exact ⟨b,hb,hv.reno q⟩,e4.has⟩⟩,i.ok,⟨h2.1,h2.2.1,h2.2.2,fun hk=>i.no.2.2.2 (h1 _ hk)⟩,i.ne,fun k hk=>i.lt k (h1 k hk)⟩
/-- An operation is done: its answer, and what is left. -/
def DoPost (No:Nat→Prop) (h:McH) (A:Ans) (st':Mc) (w:World) (e:Ending) (w':World):Prop:=
  ∃ dv pv,e = .returned (.agg #[.int .i64 A.err,.int .i64 A.pid,dv,pv])∧Owns .u8 5 w' w.heap.size dv A.data∧Owns .i64 3 w' w.heap.size pv A.pids∧McIn w' No h st'∧Tn h.own w w'
/-- An operation under way: its copy, its answer's place. -/
structure DoS (No:Nat→Prop) (h:McH) (st0:Mc) (orow:Array Value) (w:World) (st:Mc) (w2:World):Prop where
  mc:McIn w2 (NoB No (w.heap.size+1)) h st
  start:McIn w No h st0
  res:w2.heap[w.heap.size+1]?=some (.cells #[.int .i64 0,.int .i64 0,.slice none 0 0,.slice none 0 0] 42 (0,0))
  op:w2.heap[w.heap.size]?=some (.cells orow 39 (0,0))
  tn:Tn h.own w w2
section
variable {No:Nat→Prop} {h:McH} {st0 st st':Mc} {orow:Array Value} {w w2 w3:World}
theorem dos_start (i:McIn w No h st):DoS No h st orow w st ((w.alloc (.cells orow 39)).alloc (.cells #[.int .i64 0,.int .i64 0,.slice none 0 0,.slice none 0 0] 42)):=by
  have hb:=below_a2 w (.cells orow 39) (.cells #[.int .i64 0,.int .i64 0,.slice none 0 0,.slice none 0 0] 42)
  refine ⟨i.reno hb (fun k hk=>.inl hk) (fun k hk=>?_) (fun k hk=>?_),i,al2_1 _ _ _,al2_0 _ _ _,Tn.of hb⟩
  · rcases hk with hk | rfl
    · exact .inl hk
    · exact .inr (by omega)
  · rcases hk with hk | rfl
    · exact Nat.lt_of_lt_of_le (i.lt k hk) hb.size
    · simp
theorem DoS.lt (s:DoS No h st0 orow w st w2):w.heap.size+1 < w2.heap.size:=(Array.getElem?_eq_some_iff.1 s.res).1
theorem DoS.below (s:DoS No h st0 orow w st w2) (b:Below w2.heap.size w2 w3):DoS No h st0 orow w st w3:=⟨s.mc.below b,s.start,row_keep s.res b,row_keep s.op b,s.tn.call b⟩
theorem DoS.own_lt (s:DoS No h st0 orow w st w2) {k:Nat} (hk:h.own k):k < w.heap.size:=by
  rcases hk with e | e | e
  · rw [e];exact s.start.lt _ s.start.no.1
  · rw [e];exact s.start.lt _ s.start.no.2.1
  · rw [e];exact s.start.lt _ s.start.no.2.2.1
theorem DoS.turn (s:DoS No h st0 orow w st w2) (i:McIn w3 (NoB No (w.heap.size+1)) h st') (t:Tn h.own w2 w3):DoS No h st0 orow w st' w3:=
  ⟨i,s.start,row_tn s.res t (fun e=>by have:=s.own_lt e;omega),row_tn s.op t (fun e=>by have:=s.own_lt e;omega),s.tn.trans t⟩
/-- The answer laid. -/
theorem DoS.fin (s : DoS No h st0 orow w st w2) {B : Nat} (hB : w.heap.size + 1 < B) (A : Ans) {dv pv : Value} (hd : Owns .u8 5 w2 B dv A.data) (hp : Owns .i64 3 w2 B pv A.pids) :
    Owns .u8 5 (sets w2 (w.heap.size+1) [(0,.int .i64 A.err),(1,.int .i64 A.pid),(2,dv),(3,pv)]) w.heap.size dv A.data∧Owns .i64 3 (sets w2 (w.heap.size+1) [(0,.int .i64 A.err),(1,.int .i64 A.pid),(2,dv),(3,pv)]) w.heap.size pv A.pids∧McIn (sets w2 (w.heap.size+1) [(0,.int .i64 A.err),(1,.int .i64 A.pid),(2,dv),(3,pv)]) No h st∧Tn h.own w (sets w2 (w.heap.size+1) [(0,.int .i64 A.err),(1,.int .i64 A.pid),(2,dv),(3,pv)]) ∧
    (sets w2 (w.heap.size+1) [(0,.int .i64 A.err),(1,.int .i64 A.pid),(2,dv),(3,pv)]).heap[w.heap.size+1]?=some (.cells #[.int .i64 A.err,.int .i64 A.pid,dv,pv] 42 (0,0)):=by
  have hg:=sets_grown (b:=w.heap.size+1) [(0,.int .i64 A.err),(1,.int .i64 A.pid),(2,dv),(3,pv)] w2
  have hr:=sets_row [(0,.int .i64 A.err),(1,.int .i64 A.pid),(2,dv),(3,pv)] s.res
  have t:Tn (fun k=>k=w.heap.size+1) w2 _:=(Tn.refl _ w2).put hg (.inl rfl)
  refine ⟨(hd.grown hg (fun g hg2 e=>by have:=(hd.at_base g hg2).1;injection e with e;omega)).mono (by omega),(hp.grown hg (fun g hg2 e=>by have:=(hp.at_base g hg2).1;injection e with e;omega)).mono (by omega),?_,s.tn.put hg (.inr (by omega)),hr⟩
  refine (s.mc.tn t (fun k e=>⟨.inr e,fun ho=>by have:=s.own_lt ho;omega⟩)).less (fun k hk=>.inl hk) ⟨s.start.no.1,s.start.no.2.1,s.start.no.2.2.1⟩
theorem full_first (hok:McOk st) (hf:st.full=0):firstF st.v st.pr < st.pr:=by
  have h1:=firstF_le st.v st.pr
  rcases Nat.lt_or_ge (firstF st.v st.pr) st.pr with h2 | h2
  · exact h2
  · have h3:=pidsK_all (v:=st.v) st.pr (fun j hj=>firstF_below st.v st.pr j (by omega))
    unfold Mc.full at hf
    rw [h3,hok.prI,if_pos rfl] at hf
    cases hf
end
end Go.Proofs.YtoepnbfifjgpfaaGreat
