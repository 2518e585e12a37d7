/- The machine: an operation done (exit). The machine: any operation done. Opening slices of numbers, bools; how much lies in data. Opening a slice of api.Op. The machine: operations done in a row. []byte("..") of a constant: its row gets a mark behind its last cell; append to a slice that is full. No program in sight. -/
import Derived.Test.YtnbjodoajfkekaaGreatMv0
import Derived.Test.YtnbjodoajfkekaaGreatMv22
import Derived.Test.YtnbjodoajfkekaaGreatMv23
import Derived.WalkKit
import Derived.ProofKit
import Derived.BigQuiet
import Derived.Deep.QuietTactic
import Derived.Lib.Hide
import Derived.RegionTactic
import Derived.OpenShut
import Derived.Deep.Slices
import Derived.Deep.Grids
import Derived.Test.YtnbjodoajfkekaaGreatMv1
import Derived.Test.YtnbjodoajfkekaaGreatRows
import Derived.Test.YtnbjodoajfkekaaGreatMv10
import Derived.Lib.SlBytesConst
namespace Go.Proofs.YtnbjodoajfkekaaGreat
set_option maxRecDepth 100000
open Go.RowKit
set_option linter.unusedSimpArgs false
section
variable {No:Nat→Prop} {h:McH} {st:Mc} {w:World}
set_option maxHeartbeats 4000000 in
theorem do_exit (i:McIn w No h st) (pid ad n pr:Int) (d:List Int) (a:Option Addr) (dn dc:Nat) (hp:(Lit.int .i64 pid).wf=true) (hk:(Lit.int .i64 ad).wf=true) (hn:(Lit.int .i64 n).wf=true) (hd:d.length=dn) (hdl:dn≤9223372036854775807) (k:Nat) (hkp:pid=(k:Int)) (hhas:st.has pid=true) (hE:checkE st ⟨8,pid,ad,n,pr,d⟩=0) :
  Calls Tryz.prog 18 #[.pointer (some ⟨h.m,0,none⟩),.agg #[.int .i64 8,.int .i64 pid,.int .i64 ad,.int .i64 n,.int .i64 pr,.slice a dn dc]] w (DoPost No h ⟨0,0,[],[]⟩ ({ st with v:=st.v &&& ~~~ qbit k,rs:=upd st.rs k [],ms:=upd st.ms k [] }) w):=by
 have s0:=dos_start (orow:=#[.int .i64 8,.int .i64 pid,.int .i64 ad,.int .i64 n,.int .i64 pr,.slice a dn dc]) i
 have hck:=check_any s0.mc ⟨8,pid,ad,n,pr,d⟩ a dn dc hp hk hn hd hdl
 have HI:=Lib.hid i;have HP:=Lib.hid hp;have HAD:=Lib.hid hk;have HN:=Lib.hid hn;have HD:=Lib.hid hd
 obtain ⟨o0,o1,o2,o3,o4,o5⟩:=cells6 s0.op
 have HS0:=Lib.hid s0;subst hkp;rw [hE] at hck;have HH:=Lib.hid hhas;clear hE hhas
 have ta0:=ta_leaving_making
 have ta1:=ta_leaving_mapping
 have ta2:=ta_leaving_loading
 have ta3:=ta_leaving_storing
 have ta4:=ta_leaving_forking
 have ta5:=ta_leaving_leaving
 have HCK:=Lib.hid hck;clear hck s0 i hp hk hn hd
 go_enter Tryz.func18,Tryz.ntmps18
 go_wp2_with fail
 refine HCK.out.mono ?_
 rintro e w2 ⟨rfl,hb2⟩
 have HS2:=Lib.hid (HS0.out.below hb2)
 replace o0:=cel hb2 o0;replace o1:=cel hb2 o1;replace o2:=cel hb2 o2;replace o3:=cel hb2 o3;replace o4:=cel hb2 o4;replace o5:=cel hb2 o5;clear hb2;go_wp2_with fail
 refine (change_8 (k:Int) ad n pr a dn dc w2 h.m).mono ?_
 rintro e w3 ⟨rfl,hb3⟩
 have HS3:=Lib.hid (HS2.out.below hb3)
 replace o1:=cel hb3 o1
 have hb4:=below_a w3 (.cells #[] 103)
 have HS4:=Lib.hid (HS3.out.below hb4)
 replace o1:=cel hb4 o1
 obtain ⟨_,_,_,_,c9,c10,c11⟩:=HS4.out.mc.cells
 have HC11:=Lib.hid c11
 obtain ⟨D,E,e1,e2,e3,e4⟩:=HS4.out.mc.dat
 have HD:=Lib.hid e1;have HE2:=Lib.hid e2;have HE3:=Lib.hid e3;have HE4:=Lib.hid e4;have HSET:=Lib.hid HS4.out.mc.set;have HCP:=Lib.hid HI.out.ok.cf.procs.2
 have hts0:Tn (fun k=>k=h.sb) (w3.alloc (.cells #[] 103)) (w3.alloc (.cells #[] 103)).drew:=⟨rfl,rfl,rfl,Nat.le_refl _,fun _ _ _=>rfl⟩
 have hbl0:Below (w3.alloc (.cells #[] 103)).heap.size (w3.alloc (.cells #[] 103)) (w3.alloc (.cells #[] 103)).drew:=⟨rfl,rfl,rfl,Nat.le_refl _,fun _ _=>rfl⟩
 clear hb3 hb4 e1 e2 e3 e4 o0 o2 o3 o4 o5 c11;go_wp2_with fail
 refine' reg_order [eqV _,eqV _,eqV _,eqV _,eqV _,eqV _,(fun _ w5=>SetAt w5 h.sb st.c.procs (st.v &&& ~~~ qbit k))] [(6,fun w5 w6=>World.grownBy w5 w6 (some h.sb))] [(3,fun w5=>Below (w3.alloc (.cells #[] 103)).heap.size (w3.alloc (.cells #[] 103)) w5),(5,fun w5=>Below (w3.alloc (.cells #[] 103)).heap.size (w3.alloc (.cells #[] 103)) w5),(6,fun w5=>Below (w3.alloc (.cells #[] 103)).heap.size (w3.alloc (.cells #[] 103)) w5),(7,fun w5=>Tn (fun k=>k=h.sb) (w3.alloc (.cells #[] 103)) w5)] [88,89,90,91,92,93,94] [[],[0],[1],[2],[],[4],[3,5]] [0,1,2,3,4,5,6] 7 (by kernel_rfl) ⟨eS _,eS _,eS _,eS _,eS _,eS _,fun _ _ _ p b=>p.below b,trivial⟩ ⟨⟨.inl (eS _),.inl (eS _),.inl (eS _),.inl (eS _),.inl (eS _),.inl (eS _),.inr (.inr rfl),trivial⟩,trivial⟩ ⟨fun _ _ p b=>Below.call p b,fun _ _ p b=>Below.call p b,fun _ _ p b=>Below.call p b,fun _ _ p b=>Tn.call p b,trivial⟩ ⟨⟨.inr (.inl (by kernel_rfl)),.inr (.inl (by kernel_rfl)),.inr (.inr rfl),.inl (fun _ _ p g=>Tn.put p g (.inl rfl)),trivial⟩,trivial⟩ ⟨hbl0,hbl0,hbl0,hts0,trivial⟩ 115 rfl (by kernel_rfl) (by kernel_rfl) rfl rfl 7 rfl ?q1obl ?q1fin
 case q1obl=>
  refine ⟨?q1o0,?q1o1,?q1o2,?q1o3,?q1o4,?q1o5,?q1o6,trivial⟩
  case q1o0 | q1o4=>
   intro w1 hI;refine t2o (by rfl) ?_;intro K hK;go_simp;refine hK _ _ ⟨rfl,Kept.refl _,?_⟩;show _=_;simp only [gv1];rfl
  case q1o1 | q1o2=>
   intro w1 hI;intro va ha;change _=_ at ha;subst va;refine t2o (by rfl) ?_;intro K hK;simp only [gv2];go_simp;refine hK _ _ ⟨rfl,Kept.refl _,?_⟩;show _=_;simp only [gv1];rfl
  case q1o3=>
   intro w1 hI
   replace hI:(fun w5=>Below (w3.alloc (.cells #[] 103)).heap.size (w3.alloc (.cells #[] 103)) w5) w1:=hI
   intro v2 h2;change _=_ at h2;subst v2;refine t2o (by rfl) ?_;intro K hK;simp only [gv2]
   have hcc:=cel hI c9
   go_simp;refine hK _ _ ⟨rfl,Kept.refl _,?_⟩;show _=_;simp only [gv1];rfl
  case q1o5=>
   intro w1 hI
   replace hI:(fun w5=>Below (w3.alloc (.cells #[] 103)).heap.size (w3.alloc (.cells #[] 103)) w5) w1:=hI
   intro v4 h4;change _=_ at h4;subst v4;refine t2o (by rfl) ?_;intro K hK;simp only [gv2]
   have hcc:=cel hI o1
   go_simp;refine hK _ _ ⟨rfl,Kept.refl _,?_⟩;show _=_;simp only [gv1];rfl
  case q1o6=>
   intro w1 hI
   replace hI:(fun w5=>Below (w3.alloc (.cells #[] 103)).heap.size (w3.alloc (.cells #[] 103)) w5) w1:=hI
   intro v3 h3;change _=_ at h3;subst v3;intro v5 h5;change _=_ at h5;subst v5;refine t2o (by rfl) ?_;intro K hK;simp only [gv2];go_simp
   refine (free_yes h.sb st.c.procs st.v k w1 (HSET.out.below hI) HCP.out HH.out).mono ?_
   rintro e w2' ⟨rfl,hs9,hg9⟩
   refine hK _ _ ⟨rfl,hg9,?_⟩
   exact hs9
 intro w5 hI
 replace hI:(fun w5=>Tn (fun k=>k=h.sb) (w3.alloc (.cells #[] 103)) w5) w5:=hI
 intro v0 h0;change _=_ at h0;subst v0;intro v1 h1;change _=_ at h1;subst v1;intro v2 h2;change _=_ at h2;subst v2;intro v3 h3;change _=_ at h3;subst v3;intro v4 h4;change _=_ at h4;subst v4;intro v5 h5;change _=_ at h5;subst v5;intro v6 h6
 simp only [Given,gv2]
 have hs5:SetAt w5 h.sb st.c.procs (st.v &&& ~~~ qbit k):=h6
 have hne:=HS4.out.mc.ne
 have hno:=HS4.out.mc.no
 have hsb3:h.sb < w.heap.size:=HS4.out.own_lt (.inl rfl)
 have hlb3:h.lb < w.heap.size:=HS4.out.own_lt (.inr (.inl rfl))
 have hD5:MapG MR w5 h.lb D:=HD.out.at (hI.block _ HD.out.lt (fun e=>hne.1 e.symm))
 have c10b:w5.cell? ⟨h.m,10,none⟩=some (.map (some h.lb)):=(World.cell?_of_block (a:=⟨h.m,10,none⟩) (hI.block h.m (block_lt_of_cell c10) (fun e=>hno.2.2.2 (by rw [e];exact hno.1)))).trans c10
 replace o1:w5.cell? ⟨w.heap.size,1,none⟩=some (.int .i64 (k:Int)):=(World.cell?_of_block (a:=⟨w.heap.size,1,none⟩) (hI.block w.heap.size (block_lt_of_cell o1) (fun e=>by replace e:w.heap.size=h.sb:=e;omega))).trans o1
 have HS5:=Lib.hid hs5;have HT5:=Lib.hid hI;have HD5:=Lib.hid hD5;have HLB:=Lib.hid hlb3
 have htl0:Tn (fun k=>k=h.lb) w5 w5.drew:=⟨rfl,rfl,rfl,Nat.le_refl _,fun _ _ _=>rfl⟩
 have hbm0:Below w5.heap.size w5 w5.drew:=⟨rfl,rfl,rfl,Nat.le_refl _,fun _ _=>rfl⟩
 clear hs5 hI h6 hne hno hsb3 hlb3 hD5 hts0 hbl0 c9 c10;go_wp2_with fail
 refine' reg_order [eqV _,eqV _,eqV _,eqV _,eqV _,eqV _,(fun _ w6=>MapG MR w6 h.lb (kdel D (k:Int)))] [(6,fun w6 w7=>World.grownBy w6 w7 (some h.lb))] [(3,fun w6=>Below w5.heap.size w5 w6),(5,fun w6=>Below w5.heap.size w5 w6),(6,fun w6=>Below w5.heap.size w5 w6),(7,fun w6=>Tn (fun k=>k=h.lb) w5 w6)] [95,96,97,98,99,100,121] [[],[0],[1],[2],[],[4],[3,5]] [0,1,2,3,4,5,6] 7 (by kernel_rfl) ⟨eS _,eS _,eS _,eS _,eS _,eS _,fun _ _ _ p b=>p.at (b.block _ p.lt),trivial⟩ ⟨⟨.inl (eS _),.inl (eS _),.inl (eS _),.inl (eS _),.inl (eS _),.inl (eS _),.inr (.inr rfl),trivial⟩,trivial⟩ ⟨fun _ _ p b=>Below.call p b,fun _ _ p b=>Below.call p b,fun _ _ p b=>Below.call p b,fun _ _ p b=>Tn.call p b,trivial⟩ ⟨⟨.inr (.inl (by kernel_rfl)),.inr (.inl (by kernel_rfl)),.inr (.inr rfl),.inl (fun _ _ p g=>Tn.put p g (.inl rfl)),trivial⟩,trivial⟩ ⟨hbm0,hbm0,hbm0,htl0,trivial⟩ 115 rfl (by kernel_rfl) (by kernel_rfl) rfl rfl 7 rfl ?q2obl ?q2fin
 case q2obl=>
  refine ⟨?q2o0,?q2o1,?q2o2,?q2o3,?q2o4,?q2o5,?q2o6,trivial⟩
  case q2o0 | q2o4=>
   intro w1 hI;refine t2o (by rfl) ?_;intro K hK;go_simp;refine hK _ _ ⟨rfl,Kept.refl _,?_⟩;show _=_;simp only [gv1];rfl
  case q2o1 | q2o2=>
   intro w1 hI;intro va ha;change _=_ at ha;subst va;refine t2o (by rfl) ?_;intro K hK;simp only [gv2];go_simp;refine hK _ _ ⟨rfl,Kept.refl _,?_⟩;show _=_;simp only [gv1];rfl
  case q2o3=>
   intro w1 hI
   replace hI:(fun w6=>Below w5.heap.size w5 w6) w1:=hI
   intro v2 h2;change _=_ at h2;subst v2;refine t2o (by rfl) ?_;intro K hK;simp only [gv2]
   have hcc:=cel hI c10b
   go_simp;refine hK _ _ ⟨rfl,Kept.refl _,?_⟩;show _=_;simp only [gv1];rfl
  case q2o5=>
   intro w1 hI
   replace hI:(fun w6=>Below w5.heap.size w5 w6) w1:=hI
   intro v4 h4;change _=_ at h4;subst v4;refine t2o (by rfl) ?_;intro K hK;simp only [gv2]
   have hcc:=cel hI o1
   go_simp;refine hK _ _ ⟨rfl,Kept.refl _,?_⟩;show _=_;simp only [gv1];rfl
  case q2o6=>
   intro w1 hI
   replace hI:(fun w6=>Below w5.heap.size w5 w6) w1:=hI
   intro v3 h3;change _=_ at h3;subst v3;intro v5 h5;change _=_ at h5;subst v5;refine t2o (by rfl) ?_;intro K hK;simp only [gv2]
   obtain ⟨w9,hrun9,hM9,hg9,_⟩:=mg_del (HD5.out.at (hI.block _ HD5.out.lt)) (k:Int) HP.out 3 0
   replace hrun9:(Builtin.delete_ #[65,3] 0 #[.map (some h.lb),.int .i64 (k:Int)]).run Tryz.prog w1 = .ok (.tuple #[]) w9:=hrun9
   go_simp
   refine hK _ _ ⟨rfl,hg9,?_⟩
   exact hM9
 intro w6 hI
 replace hI:(fun w6=>Tn (fun k=>k=h.lb) w5 w6) w6:=hI
 intro v0 h0;change _=_ at h0;subst v0;intro v1 h1;change _=_ at h1;subst v1;intro v2 h2;change _=_ at h2;subst v2;intro v3 h3;change _=_ at h3;subst v3;intro v4 h4;change _=_ at h4;subst v4;intro v5 h5;change _=_ at h5;subst v5;intro v6 h6
 simp only [Given,gv2]
 have hM6:MapG MR w6 h.lb (kdel D (k:Int)):=h6
 have hne:=HS4.out.mc.ne
 have hno:=HS4.out.mc.no
 have hE6:MapG MP w6 h.pb E:=(HE2.out.at (HT5.out.block _ HE2.out.lt (fun e=>hne.2.1 e.symm))).at (hI.block _ (Nat.lt_of_lt_of_le HE2.out.lt HT5.out.size) (fun e=>hne.2.2 e.symm))
 have hm5:w5.cell? ⟨h.m,11,none⟩=some (.map (some h.pb)):=(World.cell?_of_block (a:=⟨h.m,11,none⟩) (HT5.out.block h.m (block_lt_of_cell HC11.out) (fun e=>hno.2.2.2 (by rw [e];exact hno.1)))).trans HC11.out
 have hm6:w6.cell? ⟨h.m,11,none⟩=some (.map (some h.pb)):=(World.cell?_of_block (a:=⟨h.m,11,none⟩) (hI.block h.m (block_lt_of_cell hm5) (fun e=>hno.2.2.2 (by rw [e];exact hno.2.1)))).trans hm5
 replace o1:w6.cell? ⟨w.heap.size,1,none⟩=some (.int .i64 (k:Int)):=(World.cell?_of_block (a:=⟨w.heap.size,1,none⟩) (hI.block w.heap.size (block_lt_of_cell o1) (fun e=>by have:=HLB.out;replace e:w.heap.size=h.lb:=e;omega))).trans o1
 have hcall:=forget_2 h.m h.pb (k:Int) E w6 hm6 hE6
 have HCALL:=Lib.hid hcall;have HM6:=Lib.hid hM6;have HT6:=Lib.hid hI;clear hcall hM6 hI h6 hne hno hE6 hm5 hm6 htl0 hbm0 c10b;go_wp2_with fail
 refine HCALL.out.mono ?_
 rintro e w7 ⟨rfl,hM7,ht7⟩
 have hne:=HS4.out.mc.ne
 have ht47:Tn h.own (w3.alloc (.cells #[] 103)) w7:=((HT5.out.mono (fun k _ e=>.inl e)).trans (HT6.out.mono (fun k _ e=>.inr (.inl e)))).trans (ht7.mono (fun k _ e=>.inr (.inr e)))
 have hset7:SetAt w7 h.sb st.c.procs (st.v &&& ~~~ qbit k):=row_tn (row_tn HS5.out HT6.out hne.1) ht7 hne.2.1
 have hi7:=HS4.out.mc.left HE3.out HE4.out ht47 hset7 (HM6.out.at (ht7.block _ HM6.out.lt hne.2.2)) hM7
 have HS7:=Lib.hid (HS4.out.turn hi7 ht47)
 clear hM7 ht7 hne ht47 hset7 hi7
 have o0:=o1
 have o2:=o1
 have o3:=o1
 have o4:=o1
 have o5:=o1
 obtain ⟨y0,y1,y2,y3⟩:=cells4a HS7.out.res
 have hf:∀ i,w7.frozen? ⟨w.heap.size+1,i,none⟩=false:=fun i=>frozen_of_row w7 (w.heap.size+1) i _ _ HS7.out.res
 have HF:=Lib.hid (HS7.out.fin (B:=w7.heap.size) HS7.out.lt (⟨0,0,[],[]⟩:Ans) (dv:=.slice none 0 0) (pv:=.slice none 0 0) (Owns.nil _ _ _ _) (Owns.nil _ _ _ _))
 clear o0 o1 o2 o3 o4 o5
 go_wp2
 obtain ⟨r0,r1,r2,r3⟩:=cells4a HF.out.2.2.2.2
 unfold sets sets sets sets sets at r0 r1 r2 r3
 refine bodyPost_ret (v:=.agg #[.int .i64 (Ans.err (⟨0,0,[],[]⟩:Ans)),.int .i64 (Ans.pid (⟨0,0,[],[]⟩:Ans)),.slice none 0 0,.slice none 0 0]) (by simp [results,Tryz.results18,go_sem,r0,r1,r2,r3]) rfl ?_
 exact ⟨_,_,rfl,HF.out.1,HF.out.2.1,HF.out.2.2.1,HF.out.2.2.2.1⟩
end
theorem right_kind {o:Opn} (h:rightOp o=true):1≤o.kind∧o.kind≤9:=by
 unfold rightOp at h
 by_cases h1:o.kind=1∨o.kind=9
 ·omega
 ·rw [if_neg h1] at h
  by_cases h2:o.kind=2∨o.kind=4
  ·omega
  ·rw [if_neg h2] at h
   by_cases h3:o.kind=3∨o.kind=5
   ·omega
   ·rw [if_neg h3] at h
    by_cases h4:o.kind=6
    ·omega
    ·rw [if_neg h4] at h
     by_cases h5:o.kind=7∨o.kind=8
     ·omega
     ·rw [if_neg h5] at h;cases h
/-- An operation that is not refused. -/
theorem check_zero {st:Mc} {o:Opn} (h:checkE st o=0):rightOp o=true∧(o.kind=9∨(o.kind=1∧st.full=0)∨(st.has o.pid=true∧((o.kind=5∧bytesE st.c (st.rs o.pid) o.at_ o.n 1=0)∨(o.kind=6∧bytesE st.c (st.rs o.pid) o.at_ o.data.length 2=0)∨(o.kind=7∧st.full=0)∨o.kind=8∨((o.kind=2∨o.kind=3∨o.kind=4)∧turnE st.c (st.rs o.pid) o=0)))):=by
 unfold checkE at h
 cases hr:rightOp o with
 | false=>rw [hr,if_pos rfl] at h;cases h
 | true=>
  have hk:=right_kind hr
  rw [hr,if_neg (by simp)] at h
  refine ⟨rfl,?_⟩
  by_cases h9:o.kind=9
  ·exact .inl h9
  ·rw [if_neg h9] at h
   by_cases h1:o.kind=1
   ·rw [if_pos h1] at h
    exact .inr (.inl ⟨h1,h⟩)
   ·rw [if_neg h1] at h
    cases hh:st.has o.pid with
    | false=>rw [hh,if_pos rfl] at h;cases h
    | true=>
     rw [hh,if_neg (by simp)] at h
     refine .inr (.inr ⟨rfl,?_⟩)
     by_cases h5:o.kind=5
     ·rw [if_pos h5] at h
      exact .inl ⟨h5,h⟩
     ·rw [if_neg h5] at h
      by_cases h6:o.kind=6
      ·rw [if_pos h6] at h
       exact .inr (.inl ⟨h6,h⟩)
      ·rw [if_neg h6] at h
       by_cases h7:o.kind=7
       ·rw [if_pos h7] at h
        exact .inr (.inr (.inl ⟨h7,h⟩))
       ·rw [if_neg h7] at h
        by_cases h8:o.kind=8
        ·exact .inr (.inr (.inr (.inl h8)))
        ·rw [if_neg h8] at h
         exact .inr (.inr (.inr (.inr ⟨by omega,h⟩)))
theorem bytes_zero {c:Cf} {L:List Rg} {k n ways:Int} (h:bytesE c L k n ways=0):0≤n∧n≤1048576∧0≤k∧k+n≤c.pages * c.page∧(0 < n→allL L (k / c.page) ((k+n - 1) / c.page+1) (okW ways)=true):=by
 unfold bytesE at h
 by_cases h1:n < 0∨1048576 < n∨k < 0∨c.pages * c.page < k∨c.pages * c.page - k < n
 ·rw [if_pos h1] at h;cases h
 ·rw [if_neg h1] at h
  refine ⟨by omega,by omega,by omega,by omega,fun hn=>?_⟩
  cases ha:allL L (k / c.page) ((k+n - 1) / c.page+1) (okW ways) with
  | true=>rfl
  | false=>rw [ha,if_pos ⟨hn,rfl⟩] at h;cases h
theorem pf_find {L:List Rg} {x:Int} (h:pf L x ≠ -1):findB L x=true:=by
 obtain ⟨r,hr,hx,_⟩:=pf_some h
 unfold findB
 rw [List.find?_isSome]
 exact ⟨r,hr,Rg.has_iff.2 hx⟩
theorem bytes_mapped {c:Cf} {m:Nat} {L:List Rg} {k n ways:Int} (hc:CfOk c) (hL:Cn m L) (h:bytesE c L k n ways=0):∀ x,k≤x→x < k+n→findB L (x / c.page)=true:=fun x h1 h2=>by
 obtain ⟨a1,a2,a3,a4,a5⟩:=bytes_zero h
 have hp:=hc.page
 have h3:=(allL_iff (b:=0) hL.canon.rising (Int.ediv_nonneg a3 (by omega))).1 (a5 (by omega)) (x / c.page) (Int.ediv_le_ediv (by omega) h1) (by
  have:=Int.ediv_le_ediv (a:=x) (b:=k+n - 1) (c:=c.page) (by omega) (by omega)
  omega)
 exact pf_find h3.1
theorem all_bd {c:Cf} (hc:CfOk c):c.pages * c.page≤268435456:=by
 have h1:=hc.pages
 have h2:=hc.page
 have:=Int.mul_le_mul h1.2 h2.2 (by omega) (by omega:(0:Int)≤65536)
 omega
section
variable {No:Nat→Prop} {h:McH} {st:Mc} {w:World}
theorem do_any (i:McIn w No h st) (o:Opn) (a:Option Addr) (dn dc:Nat) (hp:(Lit.int .i64 o.pid).wf=true) (hk:(Lit.int .i64 o.at_).wf=true) (hn:(Lit.int .i64 o.n).wf=true) (hrd:RdAt .u8 w a dn dc o.data) (hdx:∀ x,a=some x→0 < dn→¬ No x.block) :
  Calls Tryz.prog 18 #[.pointer (some ⟨h.m,0,none⟩),.agg #[.int .i64 o.kind,.int .i64 o.pid,.int .i64 o.at_,.int .i64 o.n,.int .i64 o.prot,.slice a dn dc]] w (DoPost No h (ansM st o) (stepM st o) w):=by
 have hd:=hrd.len
 have hdl:dn≤9223372036854775807:=by
  have h1:=hrd.cap
  have h2:=hrd.max
  unfold maxLen at h2
  omega
 obtain ⟨kd,pid,ad,n,pr,d⟩:=o
 dsimp only at hp hk hn hd hrd ⊢
 have hpr:=i.ok.prI
 have hcf:=i.ok.cf
 by_cases hE:checkE st ⟨kd,pid,ad,n,pr,d⟩=0
 ·have hA:∀ A:Ans,(if kd=1∨kd=7 then ⟨0,st.first,[],[]⟩ else if kd=5 then ⟨0,0,loadL st.c.page (st.ms pid) ad n.toNat,[]⟩ else if kd=9 then ⟨0,0,[],pidsK st.v st.pr⟩ else ⟨0,0,[],[]⟩)=A→ansM st ⟨kd,pid,ad,n,pr,d⟩=A:=fun A hA=>by
   unfold ansM
   rw [if_neg (by simpa using hE)]
   exact hA
  have hS:∀ S:Mc,(if kd=1 then { st with v:=tkV st.v st.pr } else if kd=2∨kd=3∨kd=4 then { st with rs:=upd st.rs pid (turnL (st.rs pid) ⟨kd,pid,ad,n,pr,d⟩),ms:=upd st.ms pid ((st.ms pid).filter fun x=>findB (turnL (st.rs pid) ⟨kd,pid,ad,n,pr,d⟩) x.1) } else if kd=6 then { st with ms:=upd st.ms pid (storeL st.c.page (st.ms pid) ad d) } else if kd=7 then { st with v:=tkV st.v st.pr,rs:=upd st.rs st.first (st.rs pid),ms:=upd st.ms st.first (st.ms pid) } else if kd=8 then { st with v:=frV st.v st.pr pid,rs:=upd st.rs pid [],ms:=upd st.ms pid [] } else st)=S→stepM st ⟨kd,pid,ad,n,pr,d⟩=S:=fun S hS=>by
   unfold stepM
   rw [if_neg (by simpa using hE)]
   exact hS
  have hT:∀ k0,firstF st.v st.pr=k0→k0 < st.pr→tkV st.v st.pr=st.v ||| qbit k0∧st.first=(k0:Int):=fun k0 h1 h2=>by
   unfold Mc.first tkV tkN
   rw [h1,if_pos h2,if_pos h2]
   exact ⟨rfl,rfl⟩
  obtain ⟨_,hc⟩:=check_zero hE
  dsimp only at hc
  rcases hc with hk9 | ⟨hk1,hf⟩ | ⟨hh,hc⟩
  ·subst hk9
   rw [hA _ rfl,hS _ rfl]
   exact do_list i pid ad n pr d a dn dc hp hk hn hd hdl hE
  ·subst hk1
   obtain ⟨e1,e2⟩:=hT _ rfl (full_first i.ok hf)
   rw [hA ⟨0,_,[],[]⟩ (by simp;exact e2),hS { st with v:=_ } (by simp;exact e1)]
   exact do_make i pid ad n pr d a dn dc hp hk hn hd hdl _ rfl (full_first i.ok hf) hE
  ·rcases hc with ⟨hk5,hb⟩ | ⟨hk6,hb⟩ | ⟨hk7,hf⟩ | hk8 | ⟨hkt,hte⟩
   ·subst hk5
    obtain ⟨a1,a2,a3,a4,_⟩:=bytes_zero hb
    have:=all_bd hcf
    rw [hA _ rfl,hS _ rfl]
    exact do_load i pid ad n pr d a dn dc hp hk hn hd hdl n.toNat (by omega) (by omega) a3 (by omega) hE
   ·subst hk6
    rw [hd] at hb
    obtain ⟨a1,a2,a3,a4,_⟩:=bytes_zero hb
    have:=all_bd hcf
    rw [hA _ rfl,hS _ rfl]
    exact do_store i pid ad n pr d a dn dc hp hk hn hd hdl hh hrd hdx a3 (by omega) (bytes_mapped hcf (i.ok.cn pid) hb) hE
   ·subst hk7
    obtain ⟨e1,e2⟩:=hT _ rfl (full_first i.ok hf)
    rw [hA ⟨0,_,[],[]⟩ (by simp;exact e2),hS { st with v:=_,rs:=_,ms:=_ } (by simp [e1,e2];exact ⟨rfl,rfl,rfl⟩)]
    exact do_fork i pid ad n pr d a dn dc hp hk hn hd hdl _ rfl (full_first i.ok hf) hh hE
   ·subst hk8
    have h0:0≤pid:=hasB_pos hh
    have e1:frV st.v st.pr pid=st.v &&& ~~~ qbit pid.toNat:=by
     unfold frV
     rw [if_pos]
     unfold Mc.has at hh
     rw [hpr]
     exact hh
    have e2:pid=(pid.toNat:Int):=by omega
    rw [hA _ rfl,hS { st with v:=st.v &&& ~~~ qbit pid.toNat,rs:=upd st.rs (pid.toNat:Int) [],ms:=upd st.ms (pid.toNat:Int) [] } (by simp [e1,← e2])]
    exact do_exit i pid ad n pr d a dn dc hp hk hn hd hdl pid.toNat e2 hh hE
   ·have e1:¬ (kd=1∨kd=7)∧kd ≠ 5∧kd ≠ 9∧kd ≠ 1:=by omega
    rw [hA ⟨0,0,[],[]⟩ (by rw [if_neg e1.1,if_neg e1.2.1,if_neg e1.2.2.1]),hS { st with rs:=upd st.rs pid (turnL (st.rs pid) ⟨kd,pid,ad,n,pr,d⟩),ms:=upd st.ms pid ((st.ms pid).filter fun x=>findB (turnL (st.rs pid) ⟨kd,pid,ad,n,pr,d⟩) x.1) } (by rw [if_neg e1.2.2.2,if_pos hkt])]
    exact do_turn i kd pid ad n pr d a dn dc hp hk hn hd hdl hkt hh hte hE
 ·have e1:ansM st ⟨kd,pid,ad,n,pr,d⟩=⟨checkE st ⟨kd,pid,ad,n,pr,d⟩,0,[],[]⟩:=by unfold ansM;rw [if_pos hE]
  have e2:stepM st ⟨kd,pid,ad,n,pr,d⟩=st:=by unfold stepM;rw [if_pos hE]
  rw [e1,e2]
  exact do_err i kd pid ad n pr d a dn dc hp hk hn hd hdl _ rfl hE
end
open Go.ChangeShapes Go.WideShapes Go.ChangeAt Go.RowKit
theorem bulk_one {H:Type} (d:DataW H):1≤Rows.uptoBulk d:=by
 cases d with
 | lit l=>cases l <;> simp [Rows.uptoBulk]
 | nil=>simp [Rows.uptoBulk]
 | ptr d=>simp [Rows.uptoBulk]
 | slice elems spare=>simp [Rows.uptoBulk]
 | agg parts=>simp [Rows.uptoBulk]
 | iface t d=>simp [Rows.uptoBulk]
 | map entries=>simp [Rows.uptoBulk]
 | held h=>simp [Rows.uptoBulk]
theorem bulk_length {H:Type} (l:List (DataW H)):l.length≤Rows.uptoBulkAll l:=by
 induction l with
 | nil=>simp [Rows.uptoBulkAll]
 | cons x r ih=>have:=bulk_one x;simp only [Rows.uptoBulkAll,List.length_cons];omega
theorem bulk_slice {H:Type} (elems spare:List (DataW H)):Rows.uptoBulkAll elems+1≤Rows.uptoBulk (.slice elems spare):=by
 simp only [Rows.uptoBulk];omega
theorem bulk_part {H:Type} {d:DataW H} {l:List (DataW H)} (h:d ∈ l):Rows.uptoBulk d≤Rows.uptoBulkAll l:=by
 induction l with
 | nil=>cases h
 | cons x r ih=>
  simp only [Rows.uptoBulkAll]
  cases List.mem_cons.1 h with
  | inl e=>subst e;omega
  | inr e=>have:=ih e;omega
theorem bulk_bound {H:Type} {l:List (DataW H)} (hk:Rows.uptoSmall H l=true):Rows.uptoBulkAll l≤1048576:=of_decide_eq_true hk
section
variable {H:Type} {enc:TypeId × Value→H} {P:Program} {w:World} {base:Nat} {held:Bool} {k:Nat} {x:DataW H × List MemPlace}
theorem nums_of {kd:IntKind} {t e:TypeId} {v:Value} (ht:P.underlying t=some (.slice e)) (he:P.underlying e=some (.int kd)) (hc:P.cellsOf e=1) (h:DataW.trod enc P w base (fun _=>true) held k t [v]=some x):∃ a n c z,v = .slice a n c∧RdAt kd w a n c z∧z.length+1≤Rows.uptoBulk x.1:=by
 rcases open_ints ht he hc h with ⟨hcs,_⟩ | ⟨y,l,c,zs,hcs,_,hl,hm,hz,hx,hcell,hwz⟩
 ·simp at hcs
  exact ⟨none,0,0,[],hcs,RdAt.nil _ _,by have:=bulk_one x.1;simpa using this⟩
 ·simp at hcs
  refine ⟨_,_,_,_,hcs,RdAt.of_row hl hm (by simpa using hz) hcell hwz,?_⟩
  rw [hx]
  have h1:=bulk_slice (H:=H) ((zs.take l).map fun n=>.lit (.int kd n)) ((zs.drop l).map fun n=>.lit (.int kd n))
  have h2:=bulk_length (H:=H) ((zs.take l).map fun n=>.lit (.int kd n))
  rw [List.length_map] at h2
  exact Nat.le_trans (Nat.succ_le_succ h2) h1
end
structure OpP where
 kind:Int
 pid:Int
 at_:Int
 n:Int
 prot:Int
 data:List Int
instance:Inhabited OpP:=⟨⟨0,0,0,0,0,[]⟩⟩
structure OpAt (w:World) (b off:Nat) (A:OpP):Prop where
 ex:∃ a5 n5 c5,w.cell? ⟨b,off,none⟩=some (.int .i64 A.kind)∧w.cell? ⟨b,off+1,none⟩=some (.int .i64 A.pid)∧w.cell? ⟨b,off+2,none⟩=some (.int .i64 A.at_)∧w.cell? ⟨b,off+3,none⟩=some (.int .i64 A.n)∧w.cell? ⟨b,off+4,none⟩=some (.int .i64 A.prot)∧w.cell? ⟨b,off+5,none⟩=some (.slice a5 n5 c5)∧RdAt .u8 w a5 n5 c5 A.data
 wf:(Lit.int .i64 A.kind).wf=true∧(Lit.int .i64 A.pid).wf=true∧(Lit.int .i64 A.at_).wf=true∧(Lit.int .i64 A.n).wf=true∧(Lit.int .i64 A.prot).wf=true
structure OpsAt (w:World) (a:Option Addr) (n:Nat) (L:List OpP):Prop where
 len:L.length=n
 at_:∀ i A,L[i]?=some A→∃ b o,a=some ⟨b,o,none⟩∧OpAt w b (o+i * 6) A
def sumOp:List OpP→Nat
 | []=>0
 | A :: r=>A.data.length+sumOp r
theorem bulk_op {H:Type} (R:List Nat) (f:Nat→OpP) (g:Nat→DataW H) (h:∀ r ∈ R,(f r).data.length+1≤Rows.uptoBulk (g r)):sumOp (R.map f)+R.length≤Rows.uptoBulkAll (R.map g):=by
 induction R with
 | nil=>simp [Rows.uptoBulkAll,sumOp]
 | cons x R ih=>
  have h1:=h x (by simp)
  have h2:=ih (fun r hr=>h r (by simp [hr]))
  rw [List.map_cons,List.map_cons,List.length_cons]
  simp only [Rows.uptoBulkAll,sumOp]
  omega
theorem list_op {α:Type} {l:List α} (h:l.length=6):∃ c0 c1 c2 c3 c4 c5,l=[c0,c1,c2,c3,c4,c5]:=by
 match l,h with
 | [c0,c1,c2,c3,c4,c5],_=>exact ⟨_,_,_,_,_,_,rfl⟩
def op_F (fs:Array Field):Bool:=fs.size == 6 && (List.range 6).all fun i=>match fs[i]? with | some f=>f.offset == i && f.type == [3,3,3,3,3,36].getD i 0 | none=>false
theorem open_op {H:Type} {enc:TypeId × Value→H} {w:World} {base:Nat} {held:Bool} {a:Option Addr} {n c:Nat} {d:DataW H} {p:List MemPlace} {fs:Array Field} (hs:Tryz.prog.underlying 38=some (.struct fs)) (hF:op_F fs=true) (hC:Tryz.prog.cellsOf 38=6)
  (h:DataW.Trod enc Tryz.prog w base (fun _=>true) held 24 (.slice a n c) d p):∃ L,OpsAt w a n L∧sumOp L+n≤Rows.uptoBulk d:=by
 obtain ⟨fuel,hf⟩:=h
 have hT:Tryz.prog.underlying 24=some (.slice 38):=Tryz.underlying24
 rcases Go.Deep.open_slice hT hf with ⟨hcs,hxd⟩ | ⟨x,l,c',m,k,D,Pl,hcs,_,hl,hm,hmm,hxd,hall⟩
 ·simp [Value.cells] at hcs
  obtain ⟨rfl,rfl,rfl⟩:=hcs
  exact ⟨[],⟨rfl,fun i A hA=>by simp at hA⟩,by simp [sumOp]⟩
 ·simp [Value.cells] at hcs
  obtain ⟨rfl,rfl,rfl⟩:=hcs
  simp only [if_true] at hmm
  subst hmm
  have each:∀ i,i < n→∃ A:OpP,(∃ b o,some x=some (⟨b,o,none⟩:Addr)∧OpAt w b (o+i * 6) A)∧A.data.length+1≤Rows.uptoBulk (D i):=by
   intro i hi
   obtain ⟨cs,h1,h2⟩:=hall i (by omega)
   rw [hC] at h1
   obtain ⟨_,hlen,hcell⟩:=World.cells?_some h1
   obtain ⟨v0,v1,v2,v3,v4,v5,rfl⟩:=list_op hlen
   obtain ⟨xs,kk,_,hDi,_,hxl,hg⟩:=DataW.trod_struct hs h2
   unfold op_F at hF
   rw [Bool.and_eq_true] at hF
   have h7:fs.size=6:=by simpa using hF.1
   have hff:=List.all_eq_true.1 hF.2
   have key:∀ (j:Nat) (v:Value) (T:TypeId),j < 6→([v0,v1,v2,v3,v4,v5]:List Value)[j]?=some v→[3,3,3,3,3,36].getD j 0=T→Tryz.prog.cellsOf T=1→∃ y,DataW.trod enc Tryz.prog w base (fun _=>true) held kk T [v]=some y∧xs[j]?=some y:=by
    intro j v T hj hv hTj hT1
    have hx:=hff j (by simpa using hj)
    obtain ⟨f,hfi⟩:∃ f,fs[j]?=some f:=⟨_,Array.getElem?_eq_getElem (by omega)⟩
    rw [hfi] at hx
    simp only [Bool.and_eq_true,beq_iff_eq] at hx
    obtain ⟨ho,ht⟩:=hx
    have h3:=hg j f hfi
    rw [ho,ht,hTj,hT1] at h3
    have hd:(([v0,v1,v2,v3,v4,v5]:List Value).drop j).take 1=[v]:=by
     obtain ⟨hjl,hje⟩:=List.getElem?_eq_some_iff.1 hv
     rw [List.drop_eq_getElem_cons hjl,hje];rfl
    rw [hd] at h3
    exact ⟨_,h3.trans (List.getElem?_eq_getElem (by omega)),List.getElem?_eq_getElem (by omega)⟩
   obtain ⟨y0,t0,s0⟩:=key 0 v0 3 (by omega) rfl rfl (by kernel_rfl)
   obtain ⟨y1,t1,s1⟩:=key 1 v1 3 (by omega) rfl rfl (by kernel_rfl)
   obtain ⟨y2,t2,s2⟩:=key 2 v2 3 (by omega) rfl rfl (by kernel_rfl)
   obtain ⟨y3,t3,s3⟩:=key 3 v3 3 (by omega) rfl rfl (by kernel_rfl)
   obtain ⟨y4,t4,s4⟩:=key 4 v4 3 (by omega) rfl rfl (by kernel_rfl)
   obtain ⟨y5,t5,s5⟩:=key 5 v5 36 (by omega) rfl rfl (by kernel_rfl)
   obtain ⟨z0,e0,_,q0⟩:=DataW.trod_int Tryz.underlying3 t0
   obtain ⟨z1,e1,_,q1⟩:=DataW.trod_int Tryz.underlying3 t1
   obtain ⟨z2,e2,_,q2⟩:=DataW.trod_int Tryz.underlying3 t2
   obtain ⟨z3,e3,_,q3⟩:=DataW.trod_int Tryz.underlying3 t3
   obtain ⟨z4,e4,_,q4⟩:=DataW.trod_int Tryz.underlying3 t4
   obtain ⟨a5,n5,c5,z5,rfl,rk5,uk5⟩:=nums_of Tryz.underlying36 Tryz.underlying5 (by kernel_rfl) t5
   simp only [List.cons.injEq,and_true] at e0 e1 e2 e3 e4
   subst e0 e1 e2 e3 e4
   have hsp:x.spot=none:=by
    obtain ⟨cs0,h10,_⟩:=hall 0 (by omega)
    rw [hC] at h10
    obtain ⟨_,hlen0,hcell0⟩:=World.cells?_some h10
    have c0:=hcell0 0 (by omega)
    obtain ⟨xx0,xx1,xx2,xx3,xx4,xx5,rfl⟩:=list_op hlen0
    have:=World.cell?_spot c0
    simpa [Addr.add] using this
   obtain ⟨b,o,sp⟩:=x
   have hsp':sp=none:=hsp
   subst hsp'
   have cc:∀ j,j < 6→w.cell? ⟨b,o+i * 6+j,none⟩=([.int .i64 z0,.int .i64 z1,.int .i64 z2,.int .i64 z3,.int .i64 z4,.slice a5 n5 c5]:List Value)[j]?:=by
    intro j hj
    have hcj:=hcell j (by simpa using hj)
    rw [Go.WideShapes.add_plain,Go.WideShapes.add_plain] at hcj
    exact hcj
   have hbulk:z5.length+1≤Rows.uptoBulk (D i):=by
    rw [Prod.mk.injEq] at hDi;rw [hDi.1]
    have h35:=bulk_part (l:=xs.map (·.1)) (d:=y5.1) (List.mem_map.2 ⟨_,List.mem_of_getElem? s5,rfl⟩)
    simp only [Rows.uptoBulk]
    omega
   exact ⟨⟨z0,z1,z2,z3,z4,z5⟩,⟨b,o,rfl,⟨a5,n5,c5,cc 0 (by omega),cc 1 (by omega),cc 2 (by omega),cc 3 (by omega),cc 4 (by omega),cc 5 (by omega),rk5⟩,q0,q1,q2,q3,q4⟩,hbulk⟩
  obtain ⟨A,hA⟩:=Go.Deep.choose_lt each
  refine ⟨(List.range n).map A,⟨by simp,fun i B hB=>?_⟩,?_⟩
  rotate_left
  ·have h1:=bulk_op (List.range n) A D (fun r hr=>(hA r (List.mem_range.1 hr)).2)
   rw [List.length_range] at h1;rw [Prod.mk.injEq] at hxd;rw [hxd.1]
   simp only [Rows.uptoBulk]
   omega
  rw [List.getElem?_map] at hB
  by_cases hi:i < n
  ·rw [List.getElem?_range hi] at hB
   simp at hB
   subst hB
   exact (hA i hi).1
  ·rw [List.getElem?_eq_none (by simp;omega)] at hB
   simp at hB
theorem ops_open {H:Type} {enc:TypeId × Value→H} {w:World} {base:Nat} {held:Bool} {a:Option Addr} {n c:Nat} {d:DataW H} {p:List MemPlace} (h:DataW.Trod enc Tryz.prog w base (fun _=>true) held 24 (.slice a n c) d p):∃ L,OpsAt w a n L∧sumOp L+n≤Rows.uptoBulk d:=
 open_op Tryz.underlying38 (by kernel_rfl) (by kernel_rfl) h
def OpP.o (A:OpP):Opn:=⟨A.kind,A.pid,A.at_,A.n,A.prot,A.data⟩
def runM (st:Mc) (L:List OpP):Mc:=L.foldl (fun s A=>stepM s A.o) st
theorem runM_snoc (st:Mc) (L:List OpP) (A:OpP):runM st (L ++ [A])=stepM (runM st L) A.o:=by
 unfold runM
 rw [List.foldl_append];rfl
/-- An answer as a value. -/
structure AnV where
 err:Int
 pid:Int
 da:Option Addr
 dn:Nat
 dc:Nat
 pa:Option Addr
 pn:Nat
 pc:Nat
def AnV.cells (x:AnV):List Value:=[.int .i64 x.err,.int .i64 x.pid,.slice x.da x.dn x.dc,.slice x.pa x.pn x.pc]
theorem anC:Cellular AnV.cells 4:=⟨fun _=>rfl,fun x u hu=>by
 simp only [AnV.cells,List.mem_cons,List.not_mem_nil,or_false] at hu
 rcases hu with rfl | rfl | rfl | rfl <;> rfl,by decide⟩
theorem anI:(Tryz.prog.info? 45).map (fun i=>(i.zero,i.size,i.bytes))=some (some (.agg #[.int .i64 0,.int .i64 0,.slice none 0 0,.slice none 0 0]),4,64):=by kernel_rfl
/-- What an answer's value reads as; its rows lie behind B. -/
structure AnIs (w:World) (B:Nat) (x:AnV) (A:Ans):Prop where
 err:x.err=A.err
 pid:x.pid=A.pid
 data:RdAt .u8 w x.da x.dn x.dc A.data
 dx:∀ y,x.da=some y→0 < x.dn→B≤y.block
 pids:RdAt .i64 w x.pa x.pn x.pc A.pids
 px:∀ y,x.pa=some y→0 < x.pn→B≤y.block
theorem AnIs.tn {w w':World} {B:Nat} {x:AnV} {A:Ans} {Q:Nat→Prop} (h:AnIs w B x A) (t:Tn Q w w') (hq:∀ k,Q k→k < B):AnIs w' B x A:=
 ⟨h.err,h.pid,h.data.tn t (fun y hy h0 e=>by have:=h.dx y hy h0;have:=hq _ e;omega),h.dx,h.pids.tn t (fun y hy h0 e=>by have:=h.px y hy h0;have:=hq _ e;omega),h.px⟩
theorem AnIs.below {w w':World} {B:Nat} {x:AnV} {A:Ans} (h:AnIs w B x A) (b:Below w.heap.size w w'):AnIs w' B x A:=h.tn (Tn.of (Q:=fun _=>False) b) (fun _ h=>h.elim)
/-- An answer's rows are not this block. -/
structure AnR (x:AnV) (r:Option Nat):Prop where
 d:∀ y,x.da=some y→0 < x.dn→some y.block ≠ r
 p:∀ y,x.pa=some y→0 < x.pn→some y.block ≠ r
theorem rd_grownN {k:IntKind} {w w':World} {r:Option Nat} {a:Option Addr} {n c:Nat} {l:List Int} (h:RdAt k w a n c l) (hg:w.grownBy w' r) (hne:∀ y,a=some y→0 < n→some y.block ≠ r):RdAt k w' a n c l:=
 h.tn (Q:=fun j=>some j=r) ⟨hg.os,hg.tape,hg.output,hg.size,fun j hj hn=>hg.block j hj hn⟩ hne
theorem AnIs.grown {w w':World} {B:Nat} {x:AnV} {A:Ans} {r:Option Nat} (h:AnIs w B x A) (hg:w.grownBy w' r) (ha:AnR x r):AnIs w' B x A:=
 ⟨h.err,h.pid,rd_grownN h.data hg ha.d,h.dx,rd_grownN h.pids hg ha.p,h.px⟩
theorem AnIs.off {w:World} {B:Nat} {x:AnV} {A:Ans} (h:AnIs w B x A) {r:Nat} (hr:w.heap.size≤r):AnR x (some r):=
 ⟨fun y hy h0 e=>by have:=h.data.lt y hy h0;injection e with e;omega,fun y hy h0 e=>by have:=h.pids.lt y hy h0;injection e with e;omega⟩
/-- The answers told so far. -/
def ansL (st:Mc) (L:List OpP) (k:Nat):Ans:=ansM (runM st (L.take k)) (L.getD k default).o
theorem OwnsS.tn {α:Type} {m:α→List Value} {k:Nat} {e:TypeId} {w w':World} {base:Nat} {v:Value} {L:List α} {Q:Nat→Prop} (h:OwnsS m k e w base v L) (t:Tn Q w w') (hq:∀ j,Q j→j < base):OwnsS m k e w' base v L:=by
 rcases h with h | ⟨h1,h2 | ⟨g,cap,cur,hv,hb,hh,hr⟩⟩
 ·exact .inl h
 ·exact .inr ⟨h1,.inl h2⟩
 ·exact .inr ⟨h1,.inr ⟨g,cap,cur,hv,hb,row_tn hh t (fun e=>by have:=hq _ e;omega),hr⟩⟩
/-- More turned, more that may turn. -/
theorem McIn.more {w w':World} {No No' Q:Nat→Prop} {h:McH} {st:Mc} (i:McIn w No h st) (t:Tn Q w w') (hq:∀ k,Q k→No k∧¬ h.own k) (h1:∀ k,No k→No' k) (h2:∀ k,No' k→No k∨w.heap.size≤k) (h3:∀ k,No' k→k < w'.heap.size):McIn w' No' h st:=by
 have q:∀ k,k < w.heap.size→No' k→No k:=fun k hk hn=>by
  rcases h2 k hn with h | h
  ·exact h
  ·omega
 have q1:∀ k,Q k→No' k:=fun k hk=>h1 k (hq k hk).1
 have j:=i.tn t hq
 obtain ⟨D,E,e1,e2,e3,e4⟩:=i.dat
 have qs:¬ Q h.sb:=fun hk=>(hq _ hk).2 (.inl rfl)
 have ql:¬ Q h.lb:=fun hk=>(hq _ hk).2 (.inr (.inl rfl))
 have qp:¬ Q h.pb:=fun hk=>(hq _ hk).2 (.inr (.inr rfl))
 have hm:h.m < w.heap.size:=(Array.getElem?_eq_some_iff.1 i.row).1
 refine ⟨j.row,j.set,⟨D,E,e1.at (t.block _ e1.lt ql),e2.at (t.block _ e2.lt qp),⟨fun p hp=>⟨(e3.all p hp).1,((e3.all p hp).2.reno q).tn t q1⟩,e3.gone⟩,⟨fun p hp=>?_,e4.has⟩⟩,i.ok,⟨h1 _ i.no.1,h1 _ i.no.2.1,h1 _ i.no.2.2.1,fun hk=>i.no.2.2.2 (q _ hm hk)⟩,i.ne,h3⟩
 obtain ⟨c,hc,hv⟩:=e4.all p hp
 exact ⟨c,hc,(hv.reno q).tn t q1⟩
/-- Operations that can be read, in no block of No. -/
structure OpIn (w:World) (No:Nat→Prop) (b off:Nat) (A:OpP):Prop where
 ex:∃ a5 n5 c5,(w.cell? ⟨b,off,none⟩=some (.int .i64 A.kind)∧w.cell? ⟨b,off+1,none⟩=some (.int .i64 A.pid)∧w.cell? ⟨b,off+2,none⟩=some (.int .i64 A.at_)∧w.cell? ⟨b,off+3,none⟩=some (.int .i64 A.n)∧w.cell? ⟨b,off+4,none⟩=some (.int .i64 A.prot)∧w.cell? ⟨b,off+5,none⟩=some (.slice a5 n5 c5)∧RdAt .u8 w a5 n5 c5 A.data)∧∀ x,a5=some x→0 < n5→¬ No x.block
 wf:(Lit.int .i64 A.kind).wf=true∧(Lit.int .i64 A.pid).wf=true∧(Lit.int .i64 A.at_).wf=true∧(Lit.int .i64 A.n).wf=true∧(Lit.int .i64 A.prot).wf=true
 no:¬ No b
structure OpsIn (w:World) (No:Nat→Prop) (a:Option Addr) (n:Nat) (L:List OpP):Prop where
 len:L.length=n
 at_:∀ i A,L[i]?=some A→∃ b o,a=some ⟨b,o,none⟩∧OpIn w No b (o+i * 6) A
theorem OpIn.tn {w w':World} {No Q:Nat→Prop} {b off:Nat} {A:OpP} (h:OpIn w No b off A) (t:Tn Q w w') (hq:∀ k,Q k→No k):OpIn w' No b off A:=by
 obtain ⟨a,n,c,⟨y0,y1,y2,y3,y4,y5,hr⟩,hx⟩:=h.ex
 have hb:¬ Q b:=fun e=>h.no (hq _ e)
 have hc:∀ {i v},w.cell? ⟨b,i,none⟩=some v→w'.cell? ⟨b,i,none⟩=some v:=fun {i v} e=>(World.cell?_of_block (a:=⟨b,i,none⟩) (t.block b (block_lt_of_cell e) hb)).trans e
 exact ⟨⟨a,n,c,⟨hc y0,hc y1,hc y2,hc y3,hc y4,hc y5,hr.tn t (fun x hx' h0 e=>hx x hx' h0 (hq _ e))⟩,hx⟩,h.wf,h.no⟩
theorem OpsIn.tn {w w':World} {No Q:Nat→Prop} {a:Option Addr} {n:Nat} {L:List OpP} (h:OpsIn w No a n L) (t:Tn Q w w') (hq:∀ k,Q k→No k):OpsIn w' No a n L:=
 ⟨h.len,fun i A hA=>by obtain ⟨b,o,e,ho⟩:=h.at_ i A hA;exact ⟨b,o,e,ho.tn t hq⟩⟩
theorem OpsIn.of {w:World} {No:Nat→Prop} {a:Option Addr} {n:Nat} {L:List OpP} (h:OpsAt w a n L) (hno:∀ k,No k→w.heap.size≤k):OpsIn w No a n L:=
 ⟨h.len,fun i A hA=>by
  obtain ⟨b,o,e,ho⟩:=h.at_ i A hA
  obtain ⟨a5,n5,c5,y⟩:=ho.ex
  have hb:=block_lt_of_cell y.1
  exact ⟨b,o,e,⟨a5,n5,c5,y,fun x hx h0 hk=>by have:=y.2.2.2.2.2.2.lt x hx h0;have:=hno _ hk;omega⟩,ho.wf,fun hk=>by have:=hno _ hk;replace hb:b < w.heap.size:=hb;omega⟩⟩
structure RunR (No:Nat→Prop) (h:McH) (st:Mc) (L:List OpP) (w:World) (q:Nat) (v:Value) (vs:List AnV) (wr:World):Prop where
 mc:∃ NoX:Nat→Prop,McIn wr NoX h (runM st (L.take q))∧(∀ k,No k→NoX k)∧(∀ k,NoX k→No k∨w.heap.size≤k)∧∀ g,room v=some g→NoX g
 tn:Tn h.own w wr
 own:OwnsS AnV.cells 4 45 wr w.heap.size v vs
 len:vs.length=q
 is:∀ k x,vs[k]?=some x→AnIs wr w.heap.size x (ansL st L k)
 off:∀ (k:Nat) (x:AnV),vs[k]?=some x→AnR x (room v)
section
variable {No:Nat→Prop} {h:McH} {st:Mc} {w:World}
set_option maxHeartbeats 2000000 in
theorem run_any (i:McIn w No h st) (a:Option Addr) (n c:Nat) (L:List OpP) (hr:OpsIn w No a n L) (hn:n≤1000) :
  Calls Tryz.prog 23 #[.pointer (some ⟨h.m,0,none⟩),.slice a n c] w fun e w'=>∃ v vs,e = .returned v∧RunR No h st L w n v vs w':=by
 have ST:Hid (RunR No h st L w 0 (.slice none 0 0) [] w):=⟨⟨No,i,fun _ h=>h,fun _ h=>.inl h,fun g hg=>by cases hg⟩,Tn.refl _ _,OwnsS.nil _ _ _ _ _,rfl,fun k x hx=>(by cases hx),fun k x hx=>(by cases hx)⟩
 have HR0:=Lib.hid hr;have HLT:=Lib.hid i.lt;have HOW:=Lib.hid i.own_no;have HOK:=Lib.hid i;clear i hr
 go_enter Tryz.func23,Tryz.ntmps23
 go_wp2_with fail
 go_loopw [5,10] (fun v iv wr=>∃ (q:Nat) (vs:List AnV),q≤n∧iv = .int .i64 q∧Hid (RunR No h st L w q v vs wr)) (fun _ iv _=>n - (intOf iv).toNat)
 case atStart=>exact ⟨0,[],by omega,rfl,ST⟩
 case round=>
  clear ST
  obtain ⟨q,vs,hq,rfl,HR⟩:=hrel
  obtain ⟨va0,vc0,rfl⟩:=HR.out.own.shapeN q HR.out.len
  by_cases hlt:q < n
  ·have dl:decide ((q:Int) < (n:Int))=true:=decide_eq_true (by omega)
   have hqL:q < L.length:=by rw [HR0.out.len];exact hlt
   obtain ⟨A,hA⟩:∃ A,L[q]?=some A:=⟨_,List.getElem?_eq_getElem hqL⟩
   obtain ⟨NoX,hmc,hx1,hx2,hx3⟩:=HR.out.mc
   obtain ⟨b,o,rfl,hat0⟩:=HR0.out.at_ q A hA
   have hat:=hat0.tn HR.out.tn HOW.out
   obtain ⟨da,dn,dc,⟨y0,y1,y2,y3,y4,y5,hrd2⟩,hdx0⟩:=hat.ex
   have hdx:∀ x,da=some x→0 < dn→¬ NoX x.block:=fun x hx h0 hk=>by
    rcases hx2 _ hk with h | h
    ·exact hdx0 x hx h0 h
    ·obtain ⟨da',dn',dc',⟨_,_,_,_,_,z5,hrd0⟩,_⟩:=hat0.ex
     have e5:=(World.cell?_of_block (a:=⟨b,o+q * 6+5,none⟩) (HR.out.tn.block b (block_lt_of_cell z5) (fun e=>hat0.no (HOW.out _ e)))).trans z5
     rw [y5] at e5
     injection e5 with e5
     injection e5 with e6 e7 e8
     subst e6 e7 e8
     have:=hrd0.lt x hx h0
     omega
   have hb1:=below_a wr (.cells #[.int .i64 A.kind,.int .i64 A.pid,.int .i64 A.at_,.int .i64 A.n,.int .i64 A.prot,.slice da dn dc] 38)
   have hdo:=do_any (hmc.below hb1) A.o da dn dc hat.wf.2.1 hat.wf.2.2.1 hat.wf.2.2.2.1 (hrd2.below hb1) hdx
   have HDO:=Lib.hid hdo;have HX1:=Lib.hid hx1;have HX2:=Lib.hid hx2;have HX3:=Lib.hid hx3;have HXL:=Lib.hid hmc.lt;have HB1:=Lib.hid hb1;have HA:=Lib.hid hA
   have hq1:(q:Int) < (n:Int):=by omega
   have hq2:(0:Int)≤(q:Int):=by omega
   clear hat hat0 hrd2 hdx hdx0 hdo hb1 hA hqL hmc hx1 hx2 hx3;go_wp2_with fail
   refine HDO.out.mono ?_
   rintro e w2 ⟨dv,pv,rfl,hod,hop,hm2,ht2⟩
   obtain ⟨xa,xc,rfl⟩:=hod.shape
   obtain ⟨ya,yc,rfl⟩:=hop.shape
   have hstep:runM st (L.take (q+1))=stepM (runM st (L.take q)) A.o:=by rw [List.take_add_one,HA.out];exact runM_snoc _ _ _
   have hans:ansL st L q=ansM (runM st (L.take q)) A.o:=by
    unfold ansL
    rw [List.getD_eq_getElem?_getD,HA.out];rfl
   rw [← hans] at hod hop ⊢;rw [← hstep] at hm2
   obtain ⟨AN,hAN⟩:∃ x,ansL st L q=x:=⟨_,rfl⟩
   rw [hAN] at hod hop ⊢
   have hsz1:w.heap.size≤(wr.alloc (.cells #[.int .i64 A.kind,.int .i64 A.pid,.int .i64 A.at_,.int .i64 A.n,.int .i64 A.prot,.slice da dn dc] 38)).heap.size:=Nat.le_trans HR.out.tn.size HB1.out.size
   have his:AnIs w2 w.heap.size ⟨AN.err,AN.pid,xa,AN.data.length,xc,ya,AN.pids.length,yc⟩ AN:=⟨rfl,rfl,hod.rd,fun y hy h0=>Nat.le_trans hsz1 (hod.blk y hy h0),hop.rd,fun y hy h0=>Nat.le_trans hsz1 (hop.blk y hy h0)⟩
   have how:∀ k,h.own k→k < w.heap.size:=fun k hk=>HLT.out _ (HOW.out _ hk)
   have hown2:=(HR.out.own.below HB1.out).tn ht2 how
   have hold2:∀ k x,vs[k]?=some x→AnIs w2 w.heap.size x (ansL st L k):=fun k x hx=>((HR.out.is k x hx).below HB1.out).tn ht2 how
   have ht02:Tn h.own w w2:=(HR.out.tn.call HB1.out).trans ht2
   have HIS:=Lib.hid his
   have HO2:=Lib.hid (hown2.alloc (.cells #[.int .i64 AN.err,.int .i64 AN.pid,.slice xa AN.data.length xc,.slice ya AN.pids.length yc] 45))
   have HOL:=Lib.hid hold2;have HT2:=Lib.hid ht02;have HM2:=Lib.hid hm2;have HAN:=Lib.hid hAN
   have hvl:vs.length < 1000000000000:=by rw [HR.out.len];omega
   have HVL:=Lib.hid hvl
   have hrow:=heap_alloc_new w2 (.cells #[.int .i64 AN.err,.int .i64 AN.pid,.slice xa AN.data.length xc,.slice ya AN.pids.length yc] 45)
   have HROW:=Lib.hid hrow
   have hbs:w.heap.size≤(w2.alloc (.cells #[.int .i64 AN.err,.int .i64 AN.pid,.slice xa AN.data.length xc,.slice ya AN.pids.length yc] 45)).heap.size:=Nat.le_trans ht02.size (by simp)
   have HBS:=Lib.hid hbs
   have HNEW:Hid (AnR (⟨AN.err,AN.pid,xa,AN.data.length,xc,ya,AN.pids.length,yc⟩:AnV) (room (.slice va0 q vc0))):=
    ⟨fun y hy h0 e=>by have h1:=hod.blk y hy h0;have h2:=(HR.out.own.at_base _ e.symm).2;have h3:=HB1.out.size;omega,fun y hy h0 e=>by have h1:=hop.blk y hy h0;have h2:=(HR.out.own.at_base _ e.symm).2;have h3:=HB1.out.size;omega⟩
   have HSA:=Lib.hid ht2.size;clear hod hop hm2 ht2 hstep hans hsz1 his how hown2 hold2 ht02 hAN hvl hrow hbs
   go_wp2_with (at_builtin;refine appS_one anC Tryz.underlying53 anI rfl (by decide) rfl (.tmp 14) (.tmp 18) rfl _ w.heap.size _ _ rfl HO2.out _ 1 (⟨AN.err,AN.pid,xa,AN.data.length,xc,ya,AN.pids.length,yc⟩:AnV) rfl HROW.out HVL.out HBS.out ?_;intro v3 w3 ho3 hg3)
   have hg3b:=hg3.back
   have hb23:Below w.heap.size w2 w3:=hg3b.below HT2.out.size (fun g hg=>(HR.out.own.at_base g hg).1)
   obtain ⟨hgr,hrm⟩:=hg3b
   have hat3:=ho3.at_base
   have hnew:AnR (⟨AN.err,AN.pid,xa,AN.data.length,xc,ya,AN.pids.length,yc⟩:AnV) (room (.slice va0 q vc0)):=HNEW.out
   have hoff:∀ x A,AnIs w2 w.heap.size x A→AnR x (room (.slice va0 q vc0))→AnR x (room v3):=fun x A hx hr=>by
    rcases hrm with e | hn
    ·rw [e];exact hr
    ·cases hr3:room v3 with
     | none=>exact ⟨fun _ _ _ h=>(by cases h),fun _ _ _ h=>(by cases h)⟩
     | some r=>exact hx.off (hn r hr3)
   have hR3:RunR No h st L w (q+1) v3 (vs ++ [⟨AN.err,AN.pid,xa,AN.data.length,xc,ya,AN.pids.length,yc⟩]) w3:=by
    have hwx:∀ k,NoX k→k < w3.heap.size:=fun k hk=>Nat.lt_of_lt_of_le (HXL.out k hk) (Nat.le_trans HB1.out.size (Nat.le_trans HSA.out hgr.size))
    refine ⟨⟨fun k=>NoX k∨room v3=some k,HM2.out.more (Q:=fun k=>some k=room (.slice va0 q vc0)) ⟨hgr.os,hgr.tape,hgr.output,hgr.size,fun j hj hn=>hgr.block j hj hn⟩ (fun k hk=>⟨HX3.out k hk.symm,fun ho=>by have:=(HR.out.own.at_base k hk.symm).1;have:=HLT.out _ (HOW.out _ ho);omega⟩) (fun k hk=>.inl hk) (fun k hk=>?_) (fun k hk=>?_),fun k hk=>.inl (HX1.out k hk),fun k hk=>?_,fun g hg=>.inr hg⟩,HT2.out.low hb23,ho3,by rw [List.length_append,HR.out.len];rfl,fun k x hx=>?_,fun k x hx=>?_⟩
    ·rcases hk with hk | hk
     ·exact .inl hk
     ·rcases hrm with e | hn
      ·exact .inl (HX3.out k (e ▸ hk))
      ·exact .inr (hn k hk)
    ·rcases hk with hk | hk
     ·exact hwx k hk
     ·exact (hat3 k hk).2
    ·rcases hk with hk | hk
     ·exact HX2.out k hk
     ·exact .inr (hat3 k hk).1
    ·rw [List.getElem?_append] at hx
     by_cases hkl:k < vs.length
     ·rw [if_pos hkl] at hx
      exact (HOL.out k x hx).grown hgr (HR.out.off k x hx)
     ·rw [if_neg hkl] at hx
      have hk0:k - vs.length=0:=by
       rcases Nat.eq_zero_or_pos (k - vs.length) with h | h
       ·exact h
       ·rw [List.getElem?_eq_none (by simp;omega)] at hx;cases hx
      rw [hk0] at hx
      injection hx with hx
      have hkq:k=q:=by have:=HR.out.len;omega
      rw [hkq,HAN.out,← hx]
      exact HIS.out.grown hgr hnew
    ·rw [List.getElem?_append] at hx
     by_cases hkl:k < vs.length
     ·rw [if_pos hkl] at hx
      exact hoff x _ (HOL.out k x hx) (HR.out.off k x hx)
     ·rw [if_neg hkl] at hx
      have hk0:k - vs.length=0:=by
       rcases Nat.eq_zero_or_pos (k - vs.length) with h | h
       ·exact h
       ·rw [List.getElem?_eq_none (by simp;omega)] at hx;cases hx
      rw [hk0] at hx
      injection hx with hx
      rw [← hx]
      exact hoff _ _ HIS.out hnew
   have HR3:=Lib.hid hR3;clear hR3 hoff hnew hat3 hgr hrm hb23 ho3 hg3
   go_wp2
   go_roundw
   case rel=>exact ⟨q+1,_,by omega,by go_num,HR3⟩
   case measure=>simp [intOf] <;> omega
  ·obtain rfl:q=n:=by omega
   have dl:decide ((q:Int) < (q:Int))=false:=decide_eq_false (by omega)
   go_wp2
   go_ret
   exact ⟨_,_,rfl,HR.out⟩
end
section
variable {P:Program}
end
section
variable {P:Program} {ds:List Deferred} {t:Array Value} {K:Act→World→Prop} {Q:Exit→Act→World→Prop} {o:Oper}
end
section
variable {P:Program} {k:IntKind} {T e bytes:Nat} {ops:Array Oper} {rest:List Oper} {o:Oper} {a:Act} {Q:Exit→Act→World→Prop}
end
end Go.Proofs.YtnbjodoajfkekaaGreat
