/- The machine: an operation done (exit). The machine: any operation done. Opening slices of numbers, bools; how much lies in data. Opening a slice of api.Op. The machine: operations done in a row. []byte("..") of a constant: its row gets a mark behind its last cell; append to a slice that is full. No program in sight. The chapter's example. The law's own helpers. -/
import Derived.Test.YtoepnbfifjgpfaaGreatMu0
import Derived.Test.YtoepnbfifjgpfaaGreatMu22
import Derived.Test.YtoepnbfifjgpfaaGreatMu23
import Derived.WalkKit
import Derived.ProofKit
import Derived.BigQuiet
import Derived.Deep.QuietTactic
import Derived.Lib.Hide
import Derived.RegionTactic
import Derived.OpenShut
import Derived.Deep.Slices
import Derived.Deep.Grids
import Derived.Test.YtoepnbfifjgpfaaGreatMu1
import Derived.Test.YtoepnbfifjgpfaaGreatRows
import Derived.Test.YtoepnbfifjgpfaaGreatMu10
import Derived.Lib.SlBytesConst
import Derived.Test.YtoepnbfifjgpfaaGreatMu19
import Derived.Test.YtoepnbfifjgpfaaGreatMu13
import Derived.Test.YtoepnbfifjgpfaaGreatMu14
namespace Go.Proofs.YtoepnbfifjgpfaaGreat
set_option maxRecDepth 100000
open Go.RowKit
set_option linter.unusedSimpArgs false
section
variable {No:Nat→Prop} {h:McH} {st:Mc} {w:World}
set_option maxHeartbeats 4000000 in
theorem do_exit (i:McIn w No h st) (pid ad n pr:Int) (d:List Int) (a:Option Addr) (dn dc:Nat) (hp:(Lit.int .i64 pid).wf=true) (hk:(Lit.int .i64 ad).wf=true) (hn:(Lit.int .i64 n).wf=true) (hd:d.length=dn) (hdl:dn≤9223372036854775807) (k:Nat) (hkp:pid=(k:Int)) (hhas:st.has pid=true) (hE:checkE st ⟨8,pid,ad,n,pr,d⟩=0) :
  Calls Tryz.prog 39 #[.pointer (some ⟨h.m,0,none⟩),.agg #[.int .i64 8,.int .i64 pid,.int .i64 ad,.int .i64 n,.int .i64 pr,.slice a dn dc]] w (DoPost No h ⟨0,0,[],[]⟩ ({ st with v:=st.v &&& ~~~ qbit k,rs:=upd st.rs k [],ms:=upd st.ms k [] }) w):=by
 have s0:=dos_start (orow:=#[.int .i64 8,.int .i64 pid,.int .i64 ad,.int .i64 n,.int .i64 pr,.slice a dn dc]) i
 have hck:=check_any s0.mc ⟨8,pid,ad,n,pr,d⟩ a dn dc hp hk hn hd hdl
 have HI:=Lib.hid i;have HP:=Lib.hid hp;have HAD:=Lib.hid hk;have HN:=Lib.hid hn;have HD:=Lib.hid hd
 obtain ⟨o0,o1,o2,o3,o4,o5⟩:=cells6 s0.op
 have HS0:=Lib.hid s0;subst hkp;rw [hE] at hck;have HH:=Lib.hid hhas;clear hE hhas
 have ta0:=ta_leaving_making
 have ta1:=ta_leaving_mapping
 have ta2:=ta_leaving_loading
 have ta3:=ta_leaving_storing
 have ta4:=ta_leaving_forking
 have ta5:=ta_leaving_leaving
 have HCK:=Lib.hid hck;clear hck s0 i hp hk hn hd
 go_enter Tryz.func39,Tryz.ntmps39
 go_wp2_with fail
 refine HCK.out.mono ?_
 rintro e w2 ⟨rfl,hb2⟩
 have HS2:=Lib.hid (HS0.out.below hb2)
 replace o0:=cel hb2 o0;replace o1:=cel hb2 o1;replace o2:=cel hb2 o2;replace o3:=cel hb2 o3;replace o4:=cel hb2 o4;replace o5:=cel hb2 o5;clear hb2;go_wp2_with fail
 refine (change_8 (k:Int) ad n pr a dn dc w2 h.m).mono ?_
 rintro e w3 ⟨rfl,hb3⟩
 have HS3:=Lib.hid (HS2.out.below hb3)
 replace o1:=cel hb3 o1
 have hb4:=below_a w3 (.cells #[] 139)
 have HS4:=Lib.hid (HS3.out.below hb4)
 replace o1:=cel hb4 o1
 obtain ⟨_,_,_,_,c9,c10,c11⟩:=HS4.out.mc.cells
 have HC11:=Lib.hid c11
 obtain ⟨D,E,e1,e2,e3,e4⟩:=HS4.out.mc.dat
 have HD:=Lib.hid e1;have HE2:=Lib.hid e2;have HE3:=Lib.hid e3;have HE4:=Lib.hid e4;have HSET:=Lib.hid HS4.out.mc.set;have HCP:=Lib.hid HI.out.ok.cf.procs.2
 have hts0:Tn (fun k=>k=h.sb) (w3.alloc (.cells #[] 139)) (w3.alloc (.cells #[] 139)).drew:=⟨rfl,rfl,rfl,Nat.le_refl _,fun _ _ _=>rfl⟩
 have hbl0:Below (w3.alloc (.cells #[] 139)).heap.size (w3.alloc (.cells #[] 139)) (w3.alloc (.cells #[] 139)).drew:=⟨rfl,rfl,rfl,Nat.le_refl _,fun _ _=>rfl⟩
 clear hb3 hb4 e1 e2 e3 e4 o0 o2 o3 o4 o5 c11;go_wp2_with fail
 refine' reg_order [eqV _,eqV _,eqV _,eqV _,eqV _,eqV _,(fun _ w5=>SetAt w5 h.sb st.c.procs (st.v &&& ~~~ qbit k))] [(6,fun w5 w6=>World.grownBy w5 w6 (some h.sb))] [(3,fun w5=>Below (w3.alloc (.cells #[] 139)).heap.size (w3.alloc (.cells #[] 139)) w5),(5,fun w5=>Below (w3.alloc (.cells #[] 139)).heap.size (w3.alloc (.cells #[] 139)) w5),(6,fun w5=>Below (w3.alloc (.cells #[] 139)).heap.size (w3.alloc (.cells #[] 139)) w5),(7,fun w5=>Tn (fun k=>k=h.sb) (w3.alloc (.cells #[] 139)) w5)] [88,89,90,91,92,93,94] [[],[0],[1],[2],[],[4],[3,5]] [0,1,2,3,4,5,6] 7 (by kernel_rfl) ⟨eS _,eS _,eS _,eS _,eS _,eS _,fun _ _ _ p b=>p.below b,trivial⟩ ⟨⟨.inl (eS _),.inl (eS _),.inl (eS _),.inl (eS _),.inl (eS _),.inl (eS _),.inr (.inr rfl),trivial⟩,trivial⟩ ⟨fun _ _ p b=>Below.call p b,fun _ _ p b=>Below.call p b,fun _ _ p b=>Below.call p b,fun _ _ p b=>Tn.call p b,trivial⟩ ⟨⟨.inr (.inl (by kernel_rfl)),.inr (.inl (by kernel_rfl)),.inr (.inr rfl),.inl (fun _ _ p g=>Tn.put p g (.inl rfl)),trivial⟩,trivial⟩ ⟨hbl0,hbl0,hbl0,hts0,trivial⟩ 115 rfl (by kernel_rfl) (by kernel_rfl) rfl rfl 7 rfl ?q1obl ?q1fin
 case q1obl=>
  refine ⟨?q1o0,?q1o1,?q1o2,?q1o3,?q1o4,?q1o5,?q1o6,trivial⟩
  case q1o0 | q1o4=>
   intro w1 hI;refine t2o (by rfl) ?_;intro K hK;go_simp;refine hK _ _ ⟨rfl,Kept.refl _,?_⟩;show _=_;simp only [gv1];rfl
  case q1o1 | q1o2=>
   intro w1 hI;intro va ha;change _=_ at ha;subst va;refine t2o (by rfl) ?_;intro K hK;simp only [gv2];go_simp;refine hK _ _ ⟨rfl,Kept.refl _,?_⟩;show _=_;simp only [gv1];rfl
  case q1o3=>
   intro w1 hI
   replace hI:(fun w5=>Below (w3.alloc (.cells #[] 139)).heap.size (w3.alloc (.cells #[] 139)) w5) w1:=hI
   intro v2 h2;change _=_ at h2;subst v2;refine t2o (by rfl) ?_;intro K hK;simp only [gv2]
   have hcc:=cel hI c9
   go_simp;refine hK _ _ ⟨rfl,Kept.refl _,?_⟩;show _=_;simp only [gv1];rfl
  case q1o5=>
   intro w1 hI
   replace hI:(fun w5=>Below (w3.alloc (.cells #[] 139)).heap.size (w3.alloc (.cells #[] 139)) w5) w1:=hI
   intro v4 h4;change _=_ at h4;subst v4;refine t2o (by rfl) ?_;intro K hK;simp only [gv2]
   have hcc:=cel hI o1
   go_simp;refine hK _ _ ⟨rfl,Kept.refl _,?_⟩;show _=_;simp only [gv1];rfl
  case q1o6=>
   intro w1 hI
   replace hI:(fun w5=>Below (w3.alloc (.cells #[] 139)).heap.size (w3.alloc (.cells #[] 139)) w5) w1:=hI
   intro v3 h3;change _=_ at h3;subst v3;intro v5 h5;change _=_ at h5;subst v5;refine t2o (by rfl) ?_;intro K hK;simp only [gv2];go_simp
   refine (free_yes h.sb st.c.procs st.v k w1 (HSET.out.below hI) HCP.out HH.out).mono ?_
   rintro e w2' ⟨rfl,hs9,hg9⟩
   refine hK _ _ ⟨rfl,hg9,?_⟩
   exact hs9
 intro w5 hI
 replace hI:(fun w5=>Tn (fun k=>k=h.sb) (w3.alloc (.cells #[] 139)) w5) w5:=hI
 intro v0 h0;change _=_ at h0;subst v0;intro v1 h1;change _=_ at h1;subst v1;intro v2 h2;change _=_ at h2;subst v2;intro v3 h3;change _=_ at h3;subst v3;intro v4 h4;change _=_ at h4;subst v4;intro v5 h5;change _=_ at h5;subst v5;intro v6 h6
 simp only [Given,gv2]
 have hs5:SetAt w5 h.sb st.c.procs (st.v &&& ~~~ qbit k):=h6
 have hne:=HS4.out.mc.ne
 have hno:=HS4.out.mc.no
 have hsb3:h.sb < w.heap.size:=HS4.out.own_lt (.inl rfl)
 have hlb3:h.lb < w.heap.size:=HS4.out.own_lt (.inr (.inl rfl))
 have hD5:MapG MR w5 h.lb D:=HD.out.at (hI.block _ HD.out.lt (fun e=>hne.1 e.symm))
 have c10b:w5.cell? ⟨h.m,10,none⟩=some (.map (some h.lb)):=(World.cell?_of_block (a:=⟨h.m,10,none⟩) (hI.block h.m (block_lt_of_cell c10) (fun e=>hno.2.2.2 (by rw [e];exact hno.1)))).trans c10
 replace o1:w5.cell? ⟨w.heap.size,1,none⟩=some (.int .i64 (k:Int)):=(World.cell?_of_block (a:=⟨w.heap.size,1,none⟩) (hI.block w.heap.size (block_lt_of_cell o1) (fun e=>by replace e:w.heap.size=h.sb:=e;omega))).trans o1
 have HS5:=Lib.hid hs5;have HT5:=Lib.hid hI;have HD5:=Lib.hid hD5;have HLB:=Lib.hid hlb3
 have htl0:Tn (fun k=>k=h.lb) w5 w5.drew:=⟨rfl,rfl,rfl,Nat.le_refl _,fun _ _ _=>rfl⟩
 have hbm0:Below w5.heap.size w5 w5.drew:=⟨rfl,rfl,rfl,Nat.le_refl _,fun _ _=>rfl⟩
 clear hs5 hI h6 hne hno hsb3 hlb3 hD5 hts0 hbl0 c9 c10;go_wp2_with fail
 refine' reg_order [eqV _,eqV _,eqV _,eqV _,eqV _,eqV _,(fun _ w6=>MapG MR w6 h.lb (kdel D (k:Int)))] [(6,fun w6 w7=>World.grownBy w6 w7 (some h.lb))] [(3,fun w6=>Below w5.heap.size w5 w6),(5,fun w6=>Below w5.heap.size w5 w6),(6,fun w6=>Below w5.heap.size w5 w6),(7,fun w6=>Tn (fun k=>k=h.lb) w5 w6)] [95,96,97,98,99,100,121] [[],[0],[1],[2],[],[4],[3,5]] [0,1,2,3,4,5,6] 7 (by kernel_rfl) ⟨eS _,eS _,eS _,eS _,eS _,eS _,fun _ _ _ p b=>p.at (b.block _ p.lt),trivial⟩ ⟨⟨.inl (eS _),.inl (eS _),.inl (eS _),.inl (eS _),.inl (eS _),.inl (eS _),.inr (.inr rfl),trivial⟩,trivial⟩ ⟨fun _ _ p b=>Below.call p b,fun _ _ p b=>Below.call p b,fun _ _ p b=>Below.call p b,fun _ _ p b=>Tn.call p b,trivial⟩ ⟨⟨.inr (.inl (by kernel_rfl)),.inr (.inl (by kernel_rfl)),.inr (.inr rfl),.inl (fun _ _ p g=>Tn.put p g (.inl rfl)),trivial⟩,trivial⟩ ⟨hbm0,hbm0,hbm0,htl0,trivial⟩ 115 rfl (by kernel_rfl) (by kernel_rfl) rfl rfl 7 rfl ?q2obl ?q2fin
 case q2obl=>
  refine ⟨?q2o0,?q2o1,?q2o2,?q2o3,?q2o4,?q2o5,?q2o6,trivial⟩
  case q2o0 | q2o4=>
   intro w1 hI;refine t2o (by rfl) ?_;intro K hK;go_simp;refine hK _ _ ⟨rfl,Kept.refl _,?_⟩;show _=_;simp only [gv1];rfl
  case q2o1 | q2o2=>
   intro w1 hI;intro va ha;change _=_ at ha;subst va;refine t2o (by rfl) ?_;intro K hK;simp only [gv2];go_simp;refine hK _ _ ⟨rfl,Kept.refl _,?_⟩;show _=_;simp only [gv1];rfl
  case q2o3=>
   intro w1 hI
   replace hI:(fun w6=>Below w5.heap.size w5 w6) w1:=hI
   intro v2 h2;change _=_ at h2;subst v2;refine t2o (by rfl) ?_;intro K hK;simp only [gv2]
   have hcc:=cel hI c10b
   go_simp;refine hK _ _ ⟨rfl,Kept.refl _,?_⟩;show _=_;simp only [gv1];rfl
  case q2o5=>
   intro w1 hI
   replace hI:(fun w6=>Below w5.heap.size w5 w6) w1:=hI
   intro v4 h4;change _=_ at h4;subst v4;refine t2o (by rfl) ?_;intro K hK;simp only [gv2]
   have hcc:=cel hI o1
   go_simp;refine hK _ _ ⟨rfl,Kept.refl _,?_⟩;show _=_;simp only [gv1];rfl
  case q2o6=>
   intro w1 hI
   replace hI:(fun w6=>Below w5.heap.size w5 w6) w1:=hI
   intro v3 h3;change _=_ at h3;subst v3;intro v5 h5;change _=_ at h5;subst v5;refine t2o (by rfl) ?_;intro K hK;simp only [gv2]
   obtain ⟨w9,hrun9,hM9,hg9,_⟩:=mg_del (HD5.out.at (hI.block _ HD5.out.lt)) (k:Int) HP.out 3 0
   replace hrun9:(Builtin.delete_ #[98,3] 0 #[.map (some h.lb),.int .i64 (k:Int)]).run Tryz.prog w1 = .ok (.tuple #[]) w9:=hrun9
   go_simp
   refine hK _ _ ⟨rfl,hg9,?_⟩
   exact hM9
 intro w6 hI
 replace hI:(fun w6=>Tn (fun k=>k=h.lb) w5 w6) w6:=hI
 intro v0 h0;change _=_ at h0;subst v0;intro v1 h1;change _=_ at h1;subst v1;intro v2 h2;change _=_ at h2;subst v2;intro v3 h3;change _=_ at h3;subst v3;intro v4 h4;change _=_ at h4;subst v4;intro v5 h5;change _=_ at h5;subst v5;intro v6 h6
 simp only [Given,gv2]
 have hM6:MapG MR w6 h.lb (kdel D (k:Int)):=h6
 have hne:=HS4.out.mc.ne
 have hno:=HS4.out.mc.no
 have hE6:MapG MP w6 h.pb E:=(HE2.out.at (HT5.out.block _ HE2.out.lt (fun e=>hne.2.1 e.symm))).at (hI.block _ (Nat.lt_of_lt_of_le HE2.out.lt HT5.out.size) (fun e=>hne.2.2 e.symm))
 have hm5:w5.cell? ⟨h.m,11,none⟩=some (.map (some h.pb)):=(World.cell?_of_block (a:=⟨h.m,11,none⟩) (HT5.out.block h.m (block_lt_of_cell HC11.out) (fun e=>hno.2.2.2 (by rw [e];exact hno.1)))).trans HC11.out
 have hm6:w6.cell? ⟨h.m,11,none⟩=some (.map (some h.pb)):=(World.cell?_of_block (a:=⟨h.m,11,none⟩) (hI.block h.m (block_lt_of_cell hm5) (fun e=>hno.2.2.2 (by rw [e];exact hno.2.1)))).trans hm5
 replace o1:w6.cell? ⟨w.heap.size,1,none⟩=some (.int .i64 (k:Int)):=(World.cell?_of_block (a:=⟨w.heap.size,1,none⟩) (hI.block w.heap.size (block_lt_of_cell o1) (fun e=>by have:=HLB.out;replace e:w.heap.size=h.lb:=e;omega))).trans o1
 have hcall:=forget_2 h.m h.pb (k:Int) E w6 hm6 hE6
 have HCALL:=Lib.hid hcall;have HM6:=Lib.hid hM6;have HT6:=Lib.hid hI;clear hcall hM6 hI h6 hne hno hE6 hm5 hm6 htl0 hbm0 c10b;go_wp2_with fail
 refine HCALL.out.mono ?_
 rintro e w7 ⟨rfl,hM7,ht7⟩
 have hne:=HS4.out.mc.ne
 have ht47:Tn h.own (w3.alloc (.cells #[] 139)) w7:=((HT5.out.mono (fun k _ e=>.inl e)).trans (HT6.out.mono (fun k _ e=>.inr (.inl e)))).trans (ht7.mono (fun k _ e=>.inr (.inr e)))
 have hset7:SetAt w7 h.sb st.c.procs (st.v &&& ~~~ qbit k):=row_tn (row_tn HS5.out HT6.out hne.1) ht7 hne.2.1
 have hi7:=HS4.out.mc.left HE3.out HE4.out ht47 hset7 (HM6.out.at (ht7.block _ HM6.out.lt hne.2.2)) hM7
 have HS7:=Lib.hid (HS4.out.turn hi7 ht47)
 clear hM7 ht7 hne ht47 hset7 hi7
 have o0:=o1
 have o2:=o1
 have o3:=o1
 have o4:=o1
 have o5:=o1
 obtain ⟨y0,y1,y2,y3⟩:=cells4a HS7.out.res
 have hf:∀ i,w7.frozen? ⟨w.heap.size+1,i,none⟩=false:=fun i=>frozen_of_row w7 (w.heap.size+1) i _ _ HS7.out.res
 have HF:=Lib.hid (HS7.out.fin (B:=w7.heap.size) HS7.out.lt (⟨0,0,[],[]⟩:Ans) (dv:=.slice none 0 0) (pv:=.slice none 0 0) (Owns.nil _ _ _ _) (Owns.nil _ _ _ _))
 clear o0 o1 o2 o3 o4 o5
 go_wp2
 obtain ⟨r0,r1,r2,r3⟩:=cells4a HF.out.2.2.2.2
 unfold sets sets sets sets sets at r0 r1 r2 r3
 refine bodyPost_ret (v:=.agg #[.int .i64 (Ans.err (⟨0,0,[],[]⟩:Ans)),.int .i64 (Ans.pid (⟨0,0,[],[]⟩:Ans)),.slice none 0 0,.slice none 0 0]) (by simp [results,Tryz.results39,go_sem,r0,r1,r2,r3]) rfl ?_
 exact ⟨_,_,rfl,HF.out.1,HF.out.2.1,HF.out.2.2.1,HF.out.2.2.2.1⟩
end
theorem right_kind {o:Opn} (h:rightOp o=true):1≤o.kind∧o.kind≤9:=by
 unfold rightOp at h
 by_cases h1:o.kind=1∨o.kind=9
 ·omega
 ·rw [if_neg h1] at h
  by_cases h2:o.kind=2∨o.kind=4
  ·omega
  ·rw [if_neg h2] at h
   by_cases h3:o.kind=3∨o.kind=5
   ·omega
   ·rw [if_neg h3] at h
    by_cases h4:o.kind=6
    ·omega
    ·rw [if_neg h4] at h
     by_cases h5:o.kind=7∨o.kind=8
     ·omega
     ·rw [if_neg h5] at h;cases h
/-- An operation that is not refused. -/
theorem check_zero {st:Mc} {o:Opn} (h:checkE st o=0):rightOp o=true∧(o.kind=9∨(o.kind=1∧st.full=0)∨(st.has o.pid=true∧((o.kind=5∧bytesE st.c (st.rs o.pid) o.at_ o.n 1=0)∨(o.kind=6∧bytesE st.c (st.rs o.pid) o.at_ o.data.length 2=0)∨(o.kind=7∧st.full=0)∨o.kind=8∨((o.kind=2∨o.kind=3∨o.kind=4)∧turnE st.c (st.rs o.pid) o=0)))):=by
 unfold checkE at h
 cases hr:rightOp o with
 | false=>rw [hr,if_pos rfl] at h;cases h
 | true=>
  have hk:=right_kind hr
  rw [hr,if_neg (by simp)] at h
  refine ⟨rfl,?_⟩
  by_cases h9:o.kind=9
  ·exact .inl h9
  ·rw [if_neg h9] at h
   by_cases h1:o.kind=1
   ·rw [if_pos h1] at h
    exact .inr (.inl ⟨h1,h⟩)
   ·rw [if_neg h1] at h
    cases hh:st.has o.pid with
    | false=>rw [hh,if_pos rfl] at h;cases h
    | true=>
     rw [hh,if_neg (by simp)] at h
     refine .inr (.inr ⟨rfl,?_⟩)
     by_cases h5:o.kind=5
     ·rw [if_pos h5] at h
      exact .inl ⟨h5,h⟩
     ·rw [if_neg h5] at h
      by_cases h6:o.kind=6
      ·rw [if_pos h6] at h
       exact .inr (.inl ⟨h6,h⟩)
      ·rw [if_neg h6] at h
       by_cases h7:o.kind=7
       ·rw [if_pos h7] at h
        exact .inr (.inr (.inl ⟨h7,h⟩))
       ·rw [if_neg h7] at h
        by_cases h8:o.kind=8
        ·exact .inr (.inr (.inr (.inl h8)))
        ·rw [if_neg h8] at h
         exact .inr (.inr (.inr (.inr ⟨by omega,h⟩)))
theorem bytes_zero {c:Cf} {L:List Rg} {k n ways:Int} (h:bytesE c L k n ways=0):0≤n∧n≤1048576∧0≤k∧k+n≤c.pages * c.page∧(0 < n→allL L (k / c.page) ((k+n - 1) / c.page+1) (okW ways)=true):=by
 unfold bytesE at h
 by_cases h1:n < 0∨1048576 < n∨k < 0∨c.pages * c.page < k∨c.pages * c.page - k < n
 ·rw [if_pos h1] at h;cases h
 ·rw [if_neg h1] at h
  refine ⟨by omega,by omega,by omega,by omega,fun hn=>?_⟩
  cases ha:allL L (k / c.page) ((k+n - 1) / c.page+1) (okW ways) with
  | true=>rfl
  | false=>rw [ha,if_pos ⟨hn,rfl⟩] at h;cases h
theorem pf_find {L:List Rg} {x:Int} (h:pf L x ≠ -1):findB L x=true:=by
 obtain ⟨r,hr,hx,_⟩:=pf_some h
 unfold findB
 rw [List.find?_isSome]
 exact ⟨r,hr,Rg.has_iff.2 hx⟩
theorem bytes_mapped {c:Cf} {m:Nat} {L:List Rg} {k n ways:Int} (hc:CfOk c) (hL:Cn m L) (h:bytesE c L k n ways=0):∀ x,k≤x→x < k+n→findB L (x / c.page)=true:=fun x h1 h2=>by
 obtain ⟨a1,a2,a3,a4,a5⟩:=bytes_zero h
 have hp:=hc.page
 have h3:=(allL_iff (b:=0) hL.canon.rising (Int.ediv_nonneg a3 (by omega))).1 (a5 (by omega)) (x / c.page) (Int.ediv_le_ediv (by omega) h1) (by
  have:=Int.ediv_le_ediv (a:=x) (b:=k+n - 1) (c:=c.page) (by omega) (by omega)
  omega)
 exact pf_find h3.1
theorem all_bd {c:Cf} (hc:CfOk c):c.pages * c.page≤268435456:=by
 have h1:=hc.pages
 have h2:=hc.page
 have:=Int.mul_le_mul h1.2 h2.2 (by omega) (by omega:(0:Int)≤65536)
 omega
section
variable {No:Nat→Prop} {h:McH} {st:Mc} {w:World}
theorem do_any (i:McIn w No h st) (o:Opn) (a:Option Addr) (dn dc:Nat) (hp:(Lit.int .i64 o.pid).wf=true) (hk:(Lit.int .i64 o.at_).wf=true) (hn:(Lit.int .i64 o.n).wf=true) (hrd:RdAt .u8 w a dn dc o.data) (hdx:∀ x,a=some x→0 < dn→¬ No x.block) :
  Calls Tryz.prog 39 #[.pointer (some ⟨h.m,0,none⟩),.agg #[.int .i64 o.kind,.int .i64 o.pid,.int .i64 o.at_,.int .i64 o.n,.int .i64 o.prot,.slice a dn dc]] w (DoPost No h (ansM st o) (stepM st o) w):=by
 have hd:=hrd.len
 have hdl:dn≤9223372036854775807:=by
  have h1:=hrd.cap
  have h2:=hrd.max
  unfold maxLen at h2
  omega
 obtain ⟨kd,pid,ad,n,pr,d⟩:=o
 dsimp only at hp hk hn hd hrd ⊢
 have hpr:=i.ok.prI
 have hcf:=i.ok.cf
 by_cases hE:checkE st ⟨kd,pid,ad,n,pr,d⟩=0
 ·have hA:∀ A:Ans,(if kd=1∨kd=7 then ⟨0,st.first,[],[]⟩ else if kd=5 then ⟨0,0,loadL st.c.page (st.ms pid) ad n.toNat,[]⟩ else if kd=9 then ⟨0,0,[],pidsK st.v st.pr⟩ else ⟨0,0,[],[]⟩)=A→ansM st ⟨kd,pid,ad,n,pr,d⟩=A:=fun A hA=>by
   unfold ansM
   rw [if_neg (by simpa using hE)]
   exact hA
  have hS:∀ S:Mc,(if kd=1 then { st with v:=tkV st.v st.pr } else if kd=2∨kd=3∨kd=4 then { st with rs:=upd st.rs pid (turnL (st.rs pid) ⟨kd,pid,ad,n,pr,d⟩),ms:=upd st.ms pid ((st.ms pid).filter fun x=>findB (turnL (st.rs pid) ⟨kd,pid,ad,n,pr,d⟩) x.1) } else if kd=6 then { st with ms:=upd st.ms pid (storeL st.c.page (st.ms pid) ad d) } else if kd=7 then { st with v:=tkV st.v st.pr,rs:=upd st.rs st.first (st.rs pid),ms:=upd st.ms st.first (st.ms pid) } else if kd=8 then { st with v:=frV st.v st.pr pid,rs:=upd st.rs pid [],ms:=upd st.ms pid [] } else st)=S→stepM st ⟨kd,pid,ad,n,pr,d⟩=S:=fun S hS=>by
   unfold stepM
   rw [if_neg (by simpa using hE)]
   exact hS
  have hT:∀ k0,firstF st.v st.pr=k0→k0 < st.pr→tkV st.v st.pr=st.v ||| qbit k0∧st.first=(k0:Int):=fun k0 h1 h2=>by
   unfold Mc.first tkV tkN
   rw [h1,if_pos h2,if_pos h2]
   exact ⟨rfl,rfl⟩
  obtain ⟨_,hc⟩:=check_zero hE
  dsimp only at hc
  rcases hc with hk9 | ⟨hk1,hf⟩ | ⟨hh,hc⟩
  ·subst hk9
   rw [hA _ rfl,hS _ rfl]
   exact do_list i pid ad n pr d a dn dc hp hk hn hd hdl hE
  ·subst hk1
   obtain ⟨e1,e2⟩:=hT _ rfl (full_first i.ok hf)
   rw [hA ⟨0,_,[],[]⟩ (by simp;exact e2),hS { st with v:=_ } (by simp;exact e1)]
   exact do_make i pid ad n pr d a dn dc hp hk hn hd hdl _ rfl (full_first i.ok hf) hE
  ·rcases hc with ⟨hk5,hb⟩ | ⟨hk6,hb⟩ | ⟨hk7,hf⟩ | hk8 | ⟨hkt,hte⟩
   ·subst hk5
    obtain ⟨a1,a2,a3,a4,_⟩:=bytes_zero hb
    have:=all_bd hcf
    rw [hA _ rfl,hS _ rfl]
    exact do_load i pid ad n pr d a dn dc hp hk hn hd hdl n.toNat (by omega) (by omega) a3 (by omega) hE
   ·subst hk6
    rw [hd] at hb
    obtain ⟨a1,a2,a3,a4,_⟩:=bytes_zero hb
    have:=all_bd hcf
    rw [hA _ rfl,hS _ rfl]
    exact do_store i pid ad n pr d a dn dc hp hk hn hd hdl hh hrd hdx a3 (by omega) (bytes_mapped hcf (i.ok.cn pid) hb) hE
   ·subst hk7
    obtain ⟨e1,e2⟩:=hT _ rfl (full_first i.ok hf)
    rw [hA ⟨0,_,[],[]⟩ (by simp;exact e2),hS { st with v:=_,rs:=_,ms:=_ } (by simp [e1,e2];exact ⟨rfl,rfl,rfl⟩)]
    exact do_fork i pid ad n pr d a dn dc hp hk hn hd hdl _ rfl (full_first i.ok hf) hh hE
   ·subst hk8
    have h0:0≤pid:=hasB_pos hh
    have e1:frV st.v st.pr pid=st.v &&& ~~~ qbit pid.toNat:=by
     unfold frV
     rw [if_pos]
     unfold Mc.has at hh
     rw [hpr]
     exact hh
    have e2:pid=(pid.toNat:Int):=by omega
    rw [hA _ rfl,hS { st with v:=st.v &&& ~~~ qbit pid.toNat,rs:=upd st.rs (pid.toNat:Int) [],ms:=upd st.ms (pid.toNat:Int) [] } (by simp [e1,← e2])]
    exact do_exit i pid ad n pr d a dn dc hp hk hn hd hdl pid.toNat e2 hh hE
   ·have e1:¬ (kd=1∨kd=7)∧kd ≠ 5∧kd ≠ 9∧kd ≠ 1:=by omega
    rw [hA ⟨0,0,[],[]⟩ (by rw [if_neg e1.1,if_neg e1.2.1,if_neg e1.2.2.1]),hS { st with rs:=upd st.rs pid (turnL (st.rs pid) ⟨kd,pid,ad,n,pr,d⟩),ms:=upd st.ms pid ((st.ms pid).filter fun x=>findB (turnL (st.rs pid) ⟨kd,pid,ad,n,pr,d⟩) x.1) } (by rw [if_neg e1.2.2.2,if_pos hkt])]
    exact do_turn i kd pid ad n pr d a dn dc hp hk hn hd hdl hkt hh hte hE
 ·have e1:ansM st ⟨kd,pid,ad,n,pr,d⟩=⟨checkE st ⟨kd,pid,ad,n,pr,d⟩,0,[],[]⟩:=by unfold ansM;rw [if_pos hE]
  have e2:stepM st ⟨kd,pid,ad,n,pr,d⟩=st:=by unfold stepM;rw [if_pos hE]
  rw [e1,e2]
  exact do_err i kd pid ad n pr d a dn dc hp hk hn hd hdl _ rfl hE
end
open Go.ChangeShapes Go.WideShapes Go.ChangeAt Go.RowKit
theorem bulk_one {H:Type} (d:DataW H):1≤Rows.uptoBulk d:=by
 cases d with
 | lit l=>cases l <;> simp [Rows.uptoBulk]
 | nil=>simp [Rows.uptoBulk]
 | ptr d=>simp [Rows.uptoBulk]
 | slice elems spare=>simp [Rows.uptoBulk]
 | agg parts=>simp [Rows.uptoBulk]
 | iface t d=>simp [Rows.uptoBulk]
 | map entries=>simp [Rows.uptoBulk]
 | held h=>simp [Rows.uptoBulk]
theorem bulk_length {H:Type} (l:List (DataW H)):l.length≤Rows.uptoBulkAll l:=by
 induction l with
 | nil=>simp [Rows.uptoBulkAll]
 | cons x r ih=>have:=bulk_one x;simp only [Rows.uptoBulkAll,List.length_cons];omega
theorem bulk_slice {H:Type} (elems spare:List (DataW H)):Rows.uptoBulkAll elems+1≤Rows.uptoBulk (.slice elems spare):=by
 simp only [Rows.uptoBulk];omega
theorem bulk_part {H:Type} {d:DataW H} {l:List (DataW H)} (h:d ∈ l):Rows.uptoBulk d≤Rows.uptoBulkAll l:=by
 induction l with
 | nil=>cases h
 | cons x r ih=>
  simp only [Rows.uptoBulkAll]
  cases List.mem_cons.1 h with
  | inl e=>subst e;omega
  | inr e=>have:=ih e;omega
theorem bulk_bound {H:Type} {l:List (DataW H)} (hk:Rows.uptoSmall H l=true):Rows.uptoBulkAll l≤1048576:=of_decide_eq_true hk
theorem bulk_two {H:Type}:∀ {l:List (DataW H)} {i j:Nat} {x y:DataW H},i < j→l[i]?=some x→l[j]?=some y→Rows.uptoBulk x+Rows.uptoBulk y≤Rows.uptoBulkAll l
 | [],_,_,_,_,_,h,_=>by simp at h
 | d :: l,0,0,_,_,h,_,_=>by omega
 | d :: l,0,j+1,x,y,_,h1,h2=>by
  simp at h1 h2
  subst h1
  have:=bulk_part (List.mem_of_getElem? h2)
  simp only [Rows.uptoBulkAll]
  omega
 | d :: l,i+1,0,_,_,h,_,_=>by omega
 | d :: l,i+1,j+1,x,y,h,h1,h2=>by
  simp at h1 h2
  have:=bulk_two (show i < j by omega) h1 h2
  simp only [Rows.uptoBulkAll]
  omega
section
variable {H:Type} {enc:TypeId × Value→H} {P:Program} {w:World} {base:Nat} {held:Bool} {k:Nat} {x:DataW H × List MemPlace}
theorem nums_of {kd:IntKind} {t e:TypeId} {v:Value} (ht:P.underlying t=some (.slice e)) (he:P.underlying e=some (.int kd)) (hc:P.cellsOf e=1) (h:DataW.trod enc P w base (fun _=>true) held k t [v]=some x):∃ a n c z,v = .slice a n c∧RdAt kd w a n c z∧z.length+1≤Rows.uptoBulk x.1:=by
 rcases open_ints ht he hc h with ⟨hcs,_⟩ | ⟨y,l,c,zs,hcs,_,hl,hm,hz,hx,hcell,hwz⟩
 ·simp at hcs
  exact ⟨none,0,0,[],hcs,RdAt.nil _ _,by have:=bulk_one x.1;simpa using this⟩
 ·simp at hcs
  refine ⟨_,_,_,_,hcs,RdAt.of_row hl hm (by simpa using hz) hcell hwz,?_⟩
  rw [hx]
  have h1:=bulk_slice (H:=H) ((zs.take l).map fun n=>.lit (.int kd n)) ((zs.drop l).map fun n=>.lit (.int kd n))
  have h2:=bulk_length (H:=H) ((zs.take l).map fun n=>.lit (.int kd n))
  rw [List.length_map] at h2
  exact Nat.le_trans (Nat.succ_le_succ h2) h1
end
structure OpP where
 kind:Int
 pid:Int
 at_:Int
 n:Int
 prot:Int
 data:List Int
instance:Inhabited OpP:=⟨⟨0,0,0,0,0,[]⟩⟩
structure OpAt (w:World) (b off:Nat) (A:OpP):Prop where
 ex:∃ a5 n5 c5,w.cell? ⟨b,off,none⟩=some (.int .i64 A.kind)∧w.cell? ⟨b,off+1,none⟩=some (.int .i64 A.pid)∧w.cell? ⟨b,off+2,none⟩=some (.int .i64 A.at_)∧w.cell? ⟨b,off+3,none⟩=some (.int .i64 A.n)∧w.cell? ⟨b,off+4,none⟩=some (.int .i64 A.prot)∧w.cell? ⟨b,off+5,none⟩=some (.slice a5 n5 c5)∧RdAt .u8 w a5 n5 c5 A.data
 wf:(Lit.int .i64 A.kind).wf=true∧(Lit.int .i64 A.pid).wf=true∧(Lit.int .i64 A.at_).wf=true∧(Lit.int .i64 A.n).wf=true∧(Lit.int .i64 A.prot).wf=true
structure OpsAt (w:World) (a:Option Addr) (n:Nat) (L:List OpP):Prop where
 len:L.length=n
 at_:∀ i A,L[i]?=some A→∃ b o,a=some ⟨b,o,none⟩∧OpAt w b (o+i * 6) A
def sumOp:List OpP→Nat
 | []=>0
 | A :: r=>A.data.length+sumOp r
def OpP.o (A:OpP):Opn:=⟨A.kind,A.pid,A.at_,A.n,A.prot,A.data⟩
/-- More turned, more that may turn. -/
theorem McIn.more {w w':World} {No No' Q:Nat→Prop} {h:McH} {st:Mc} (i:McIn w No h st) (t:Tn Q w w') (hq:∀ k,Q k→No k∧¬ h.own k) (h1:∀ k,No k→No' k) (h2:∀ k,No' k→No k∨w.heap.size≤k) (h3:∀ k,No' k→k < w'.heap.size):McIn w' No' h st:=by
 have q:∀ k,k < w.heap.size→No' k→No k:=fun k hk hn=>by
  rcases h2 k hn with h | h
  ·exact h
  ·omega
 have q1:∀ k,Q k→No' k:=fun k hk=>h1 k (hq k hk).1
 have j:=i.tn t hq
 obtain ⟨D,E,e1,e2,e3,e4⟩:=i.dat
 have qs:¬ Q h.sb:=fun hk=>(hq _ hk).2 (.inl rfl)
 have ql:¬ Q h.lb:=fun hk=>(hq _ hk).2 (.inr (.inl rfl))
 have qp:¬ Q h.pb:=fun hk=>(hq _ hk).2 (.inr (.inr rfl))
 have hm:h.m < w.heap.size:=(Array.getElem?_eq_some_iff.1 i.row).1
 refine ⟨j.row,j.set,⟨D,E,e1.at (t.block _ e1.lt ql),e2.at (t.block _ e2.lt qp),⟨fun p hp=>⟨(e3.all p hp).1,((e3.all p hp).2.reno q).tn t q1⟩,e3.gone⟩,⟨fun p hp=>?_,e4.has⟩⟩,i.ok,⟨h1 _ i.no.1,h1 _ i.no.2.1,h1 _ i.no.2.2.1,fun hk=>i.no.2.2.2 (q _ hm hk)⟩,i.ne,h3⟩
 obtain ⟨c,hc,hv⟩:=e4.all p hp
 exact ⟨c,hc,(hv.reno q).tn t q1⟩
/-- Operations that can be read, in no block of No. -/
structure OpIn (w:World) (No:Nat→Prop) (b off:Nat) (A:OpP):Prop where
 ex:∃ a5 n5 c5,(w.cell? ⟨b,off,none⟩=some (.int .i64 A.kind)∧w.cell? ⟨b,off+1,none⟩=some (.int .i64 A.pid)∧w.cell? ⟨b,off+2,none⟩=some (.int .i64 A.at_)∧w.cell? ⟨b,off+3,none⟩=some (.int .i64 A.n)∧w.cell? ⟨b,off+4,none⟩=some (.int .i64 A.prot)∧w.cell? ⟨b,off+5,none⟩=some (.slice a5 n5 c5)∧RdAt .u8 w a5 n5 c5 A.data)∧∀ x,a5=some x→0 < n5→¬ No x.block
 wf:(Lit.int .i64 A.kind).wf=true∧(Lit.int .i64 A.pid).wf=true∧(Lit.int .i64 A.at_).wf=true∧(Lit.int .i64 A.n).wf=true∧(Lit.int .i64 A.prot).wf=true
 no:¬ No b
structure OpsIn (w:World) (No:Nat→Prop) (a:Option Addr) (n:Nat) (L:List OpP):Prop where
 len:L.length=n
 at_:∀ i A,L[i]?=some A→∃ b o,a=some ⟨b,o,none⟩∧OpIn w No b (o+i * 6) A
theorem OpIn.tn {w w':World} {No Q:Nat→Prop} {b off:Nat} {A:OpP} (h:OpIn w No b off A) (t:Tn Q w w') (hq:∀ k,Q k→No k):OpIn w' No b off A:=by
 obtain ⟨a,n,c,⟨y0,y1,y2,y3,y4,y5,hr⟩,hx⟩:=h.ex
 have hb:¬ Q b:=fun e=>h.no (hq _ e)
 have hc:∀ {i v},w.cell? ⟨b,i,none⟩=some v→w'.cell? ⟨b,i,none⟩=some v:=fun {i v} e=>(World.cell?_of_block (a:=⟨b,i,none⟩) (t.block b (block_lt_of_cell e) hb)).trans e
 exact ⟨⟨a,n,c,⟨hc y0,hc y1,hc y2,hc y3,hc y4,hc y5,hr.tn t (fun x hx' h0 e=>hx x hx' h0 (hq _ e))⟩,hx⟩,h.wf,h.no⟩
theorem OpsIn.tn {w w':World} {No Q:Nat→Prop} {a:Option Addr} {n:Nat} {L:List OpP} (h:OpsIn w No a n L) (t:Tn Q w w') (hq:∀ k,Q k→No k):OpsIn w' No a n L:=
 ⟨h.len,fun i A hA=>by obtain ⟨b,o,e,ho⟩:=h.at_ i A hA;exact ⟨b,o,e,ho.tn t hq⟩⟩
section
variable {No:Nat→Prop} {h:McH} {st:Mc} {w:World}
end
section
variable {P:Program}
end
section
variable {P:Program} {ds:List Deferred} {t:Array Value} {K:Act→World→Prop} {Q:Exit→Act→World→Prop} {o:Oper}
end
section
variable {P:Program} {k:IntKind} {T e bytes:Nat} {ops:Array Oper} {rest:List Oper} {o:Oper} {a:Act} {Q:Exit→Act→World→Prop}
end
section
variable (w:World)
end
theorem regs_yes (a b:Option Addr) (n c d:Nat) (L:List Rg) (w:World) (h:RdS Rg.cells 3 w a n c L) (h2:RdS Rg.cells 3 w b n d L) (hn:n≤1000) :
  Calls Tryz.prog 80 #[.slice a n c,.slice b n d] w fun e w'=>e = .returned (.bool true)∧Below w.heap.size w w':=by
 have H:=Lib.hid h;have H2:=Lib.hid h2;clear h h2
 go_enter Tryz.func80,Tryz.ntmps80
 go_wp2
 go_loopw [5] (fun i wr=>∃ k:Nat,k≤n∧i = .int .i64 k∧Hid (Below w.heap.size w wr)) (fun i _=>n - (intOf i).toNat)
 case atStart=>exact ⟨0,by omega,rfl,Below.refl _ _⟩
 case round=>
  obtain ⟨k,hk,rfl,B⟩:=hrel
  by_cases hkn:k < n
  ·have hl:=H.out.len
   obtain ⟨r,hr⟩:∃ r,L[k]?=some r:=⟨L[k],List.getElem?_eq_getElem (by omega)⟩
   obtain ⟨g,o,ha,c0,c1,c2⟩:=(H.out.below B.out).three k r hr
   obtain ⟨g',o',hb,d0,d1,d2⟩:=(H2.out.below B.out).three k r hr
   subst ha hb
   clear hr hl
   obtain ⟨rlo,rhi,rp⟩:=r
   replace c0:wr.cell? ⟨g,o+k * 3,none⟩=some (.int .i64 rlo):=c0
   replace c1:wr.cell? ⟨g,o+k * 3+1,none⟩=some (.int .i64 rhi):=c1
   replace c2:wr.cell? ⟨g,o+k * 3+2,none⟩=some (.int .i64 rp):=c2
   replace d0:wr.cell? ⟨g',o'+k * 3,none⟩=some (.int .i64 rlo):=d0
   replace d1:wr.cell? ⟨g',o'+k * 3+1,none⟩=some (.int .i64 rhi):=d1
   replace d2:wr.cell? ⟨g',o'+k * 3+2,none⟩=some (.int .i64 rp):=d2
   go_wp2
   go_quiet (fail)
   go_wp2
   go_roundw
   case rel=>exact ⟨k+1,by omega,by go_num,Below.call B.out (belowN (Below.refl _ _) _)⟩
   case measure=>simp [intOf] <;> omega
  ·obtain rfl:k=n:=by omega
   go_wp2
   go_ret
   exact ⟨rfl,B.out⟩
theorem ints_yes (a:Option Addr) (n c:Nat) (a':Option Addr) (n' c':Nat) (l:List Int) (w:World) (h:RdAt .i64 w a n c l) (h':RdAt .i64 w a' n' c' l) :
  Calls Tryz.prog 78 #[.slice a n c,.slice a' n' c'] w fun e w'=>e = .returned (.bool true)∧Below w.heap.size w w':=by
 obtain rfl:n=n':=by have h1:=h.len;have h2:=h'.len;omega
 have hm:=h.max
 have hcp:=h.cap
 unfold maxLen at hm
 have H:=Lib.hid h;have H':=Lib.hid h';clear h h'
 go_enter Tryz.func78,Tryz.ntmps78
 go_wp2_with fail
 go_loopw [5] (fun i wr=>∃ k:Nat,k≤n∧i = .int .i64 k∧Below w.heap.size w wr) (fun i _=>n - (intOf i).toNat)
 case atStart=>exact ⟨0,by omega,rfl,Below.refl _ _⟩
 case round=>
  obtain ⟨k,hk,rfl,hb⟩:=hrel
  by_cases hp:k < n
  ·obtain ⟨b,ad,rfl,hcell⟩:=(H.out.below hb).cell k hp
   obtain ⟨b',ad',rfl,hcell'⟩:=(H'.out.below hb).cell k hp
   have HB:=Lib.hid hb;clear hb;go_wp2_with fail;go_quiet (fail);go_wp2_with fail
   go_roundw
   case rel=>exact ⟨k+1,by omega,by go_num,belowNp HB.out _⟩
   case measure=>simp [intOf] <;> omega
  ·have HB:=Lib.hid hb
   clear hb;go_wp2_with fail
   go_ret
   exact ⟨rfl,HB.out⟩
/-- Few operations. -/
def bigL (A:OpP):Bool:=decide (A.kind=5) && (decide (8192 < A.n) && decide (A.n≤1048576))
def fewB (L:List OpP):Bool:=!(L.any bigL) && (decide (L.length≤200) && decide (sumOp L≤16384))
theorem sumOp_append (L M:List OpP):sumOp (L ++ M)=sumOp L+sumOp M:=by
 induction L with
 | nil=>simp [sumOp]
 | cons A r ih=>rw [List.cons_append,sumOp,sumOp,ih];omega
theorem sumOp_take (L:List OpP) (k:Nat):sumOp (L.take k)≤sumOp L:=by
 conv=>rhs;rw [← List.take_append_drop k L,sumOp_append]
 omega
set_option maxHeartbeats 2000000 in
theorem few_any (a:Option Addr) (n c:Nat) (L:List OpP) (w:World) (h:OpsAt w a n L) (hn:n≤2000000) (hs:sumOp L≤2000000) :
  Calls Tryz.prog 22 #[.slice a n c] w fun e w'=>e = .returned (.bool (fewB L))∧w=w':=by
 have H:=Lib.hid h
 have hln:=h.len
 obtain ⟨FB,hFB⟩:∃ x,fewB L=x:=⟨_,rfl⟩
 rw [hFB];have HFB:=Lib.hid hFB;clear h hFB
 go_enter Tryz.func22,Tryz.ntmps22
 go_wp2
 go_loopw [3,4] (fun s i wr=>∃ k:Nat,k≤n∧i = .int .i64 k∧s = .int .i64 (sumOp (L.take k):Nat)∧Hid (w=wr)∧Hid ((L.take k).any bigL=false)) (fun _ i _=>n - (intOf i).toNat)
 case atStart=>exact ⟨0,by omega,rfl,by simp [sumOp],rfl,by show _=_;simp⟩
 case round=>
  obtain ⟨k,hk,rfl,rfl,HW,HA⟩:=hrel
  have hw:=HW.out
  subst hw
  by_cases hkn:k < n
  ·have dk:decide ((k:Int) < (n:Int))=true:=decide_eq_true (by omega)
   obtain ⟨A,hA⟩:∃ A,L[k]?=some A:=⟨_,List.getElem?_eq_getElem (by omega)⟩
   obtain ⟨b,o,rfl,hat⟩:=H.out.at_ k A hA
   obtain ⟨da,dn,dc,y0,y1,y2,y3,y4,y5,hrd⟩:=hat.ex
   have hdl:=hrd.len
   have htk:L.take (k+1)=L.take k ++ [A]:=by rw [List.take_add_one,hA];rfl
   have hsum:sumOp (L.take (k+1))=sumOp (L.take k)+dn:=by rw [htk,sumOp_append];simp [sumOp,hdl]
   have hle:=sumOp_take L (k+1)
   have hwr:IntKind.i64.wrap ((sumOp (L.take k):Int)+(dn:Int))=((sumOp (L.take (k+1)):Nat):Int):=by rw [IntKind.wrap_i64];omega
   have hk1:(k:Int) < (n:Int):=by omega
   have hk2:(0:Int)≤(k:Int):=by omega
   have HTK:=Lib.hid htk
   obtain ⟨S1,hS1⟩:∃ x,sumOp (L.take (k+1))=x:=⟨_,rfl⟩
   rw [hS1] at hwr;have HS1:=Lib.hid hS1
   by_cases q1:A.kind=5
   ·have d1:decide (A.kind=5)=true:=decide_eq_true q1
    have b1:(A.kind == 5)=true:=by simpa using q1
    rw [q1] at y0
    by_cases q2:8192 < A.n
    ·have d2:decide (8192 < A.n)=true:=decide_eq_true q2
     by_cases q3:A.n≤1048576
     ·have d3:decide (A.n≤1048576)=true:=decide_eq_true q3
      have hfb:FB=false:=by
       rw [← HFB.out]
       unfold fewB
       have:L.any bigL=true:=List.any_eq_true.2 ⟨A,List.mem_of_getElem? hA,by unfold bigL;rw [d1,d2,d3];rfl⟩
       rw [this];rfl
      subst hfb;clear hat hrd hdl htk hsum hle hS1 hA
      go_wp2
      go_ret
      exact ⟨rfl,rfl⟩
     ·have d3:decide (A.n≤1048576)=false:=decide_eq_false q3
      have HA2:Hid ((L.take (k+1)).any bigL=false):=by show _=_;rw [htk,List.any_append,HA.out];simp [bigL,d3]
      clear hat hrd hdl htk hsum hle hS1 hA
      go_wp2
      go_roundw
      case rel=>exact ⟨k+1,by omega,by go_num,by rw [HS1.out],by first | exact Lib.hid rfl | exact Lib.hid trivial,HA2⟩
      case measure=>simp [intOf] <;> omega
    ·have d2:decide (8192 < A.n)=false:=decide_eq_false q2
     have HA2:Hid ((L.take (k+1)).any bigL=false):=by show _=_;rw [htk,List.any_append,HA.out];simp [bigL,d2]
     clear hat hrd hdl htk hsum hle hS1 hA
     go_wp2
     go_roundw
     case rel=>exact ⟨k+1,by omega,by go_num,by rw [HS1.out],by first | exact Lib.hid rfl | exact Lib.hid trivial,HA2⟩
     case measure=>simp [intOf] <;> omega
   ·have d1:decide (A.kind=5)=false:=decide_eq_false q1
    have b1:(A.kind == 5)=false:=by simpa using q1
    have HA2:Hid ((L.take (k+1)).any bigL=false):=by show _=_;rw [htk,List.any_append,HA.out];simp [bigL,d1]
    clear hat hrd hdl htk hsum hle hS1 hA
    go_wp2
    go_roundw
    case rel=>exact ⟨k+1,by omega,by go_num,by rw [HS1.out],by first | exact Lib.hid rfl | exact Lib.hid trivial,HA2⟩
    case measure=>simp [intOf] <;> omega
  ·obtain rfl:k=n:=by omega
   have dk:decide ((k:Int) < (k:Int))=false:=decide_eq_false (by omega)
   have hall:L.take k=L:=List.take_of_length_le (by omega)
   have hF:FB=(decide ((k:Int)≤200) && decide ((sumOp L:Int)≤16384)):=by
    have h1:=HA.out
    rw [hall] at h1;rw [← HFB.out]
    unfold fewB
    rw [h1,hln]
    have e1:decide (k≤200)=decide ((k:Int)≤200):=by congr 1;simp;omega
    have e2:decide (sumOp L≤16384)=decide ((sumOp L:Int)≤16384):=by congr 1;simp;omega
    rw [e1,e2];rfl
   rw [hall]
   by_cases q1:(k:Int)≤200
   ·have d1:decide ((k:Int)≤200)=true:=decide_eq_true q1
    rw [d1] at hF
    have hF2:decide ((sumOp L:Int)≤16384)=FB:=by rw [hF];rfl
    clear hF
    go_wp2
    go_ret
    exact ⟨rfl,rfl⟩
   ·have d1:decide ((k:Int)≤200)=false:=decide_eq_false q1
    rw [d1] at hF
    have hF2:FB=false:=hF
    clear hF;subst hF2;clear hall hln hk dk HFB HA
    go_wp2
    go_ret
    exact ⟨rfl,rfl⟩
end Go.Proofs.YtoepnbfifjgpfaaGreat
