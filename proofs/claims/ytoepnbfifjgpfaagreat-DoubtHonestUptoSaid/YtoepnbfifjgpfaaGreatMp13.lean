/- The document's machine is made (New). Both machines side by side: a play under way. The document's machine apart, under way (Twin). The document's machine apart (Twin). -/
import Derived.Test.YtoepnbfifjgpfaaGreatMu0
import Derived.Test.YtoepnbfifjgpfaaGreatMp1
import Derived.Test.YtoepnbfifjgpfaaGreatMu20
import Derived.WalkKit
import Derived.ProofKit
import Derived.BigQuiet
import Derived.Deep.QuietTactic
import Derived.Lib.Hide
import Derived.RegionTactic
import Derived.Test.YtoepnbfifjgpfaaGreatMp12
import Derived.Test.YtoepnbfifjgpfaaGreatMu24
import Derived.Test.YtoepnbfifjgpfaaGreatMp11
import Derived.Test.YtoepnbfifjgpfaaGreatMp6
namespace Go.Proofs.YtoepnbfifjgpfaaGreat
set_option maxRecDepth 100000
open Go.RowKit
set_option linter.unusedSimpArgs false
theorem mkI6:(Tryz.prog.info? 72).map (fun i=>(i.zero,i.size,i.bytes))=some (some (.pointer none),1,8):=by kernel_rfl
theorem mk_ptrs (n:Nat) (hn:n≤1000000) (w:World):(Instr.makeSlice 67 (.int .i64 (n:Int)) (.int .i64 (n:Int))).run Tryz.prog w = .ok (.slice (some ⟨w.heap.size,0,none⟩) n n) (w.alloc (.cells (List.replicate n (.pointer none)).toArray 72)):=by
 obtain ⟨i,hi,hz,hs,hb⟩:=info_parts mkI6
 have hr:=run_make (P:=Tryz.prog) w 67 72 i (.pointer none) Tryz.underlying67 hi hz .i64 .i64 n n (by omega) (Int.le_refl _) (by rw [hb];omega) (by omega)
 rw [hr,hs,Int.toNat_natCast,Nat.mul_one]
 congr 4
 rw [show (Value.pointer none).cells = #[.pointer none] from rfl,← toList_madeCells_one]
theorem mc0_has (c:Cf) (p:Int):(mc0 c).has p=false:=by
 unfold Mc.has hasB mc0
 simp
section
variable (c:Cf) (w:World)
set_option maxHeartbeats 2000000 in
theorem rnew18_yes (h:CfOk c):Calls Tryz.prog 7 #[c.val] w fun e w'=>∃ hh:RmH,e = .returned (.tuple #[.pointer (some ⟨hh.m,0,none⟩),.int .i64 0])∧RmIn w' (hh.own (mc0 c)) hh (mc0 c)∧(∀ k,hh.own (mc0 c) k→w.heap.size≤k)∧w.heap.size≤hh.m∧Below w.heap.size w w':=by
 have hrow:=heap_alloc_new w (.cells #[.int .i64 c.a0,.int .i64 c.a1,.int .i64 c.a2,.int .i64 c.a3,.int .i64 c.page,.int .i64 c.a5,.int .i64 c.procs,.int .i64 c.regions,.int .i64 c.pages] 23)
 have hb0:=below_a w (.cells #[.int .i64 c.a0,.int .i64 c.a1,.int .i64 c.a2,.int .i64 c.a3,.int .i64 c.page,.int .i64 c.a5,.int .i64 c.procs,.int .i64 c.regions,.int .i64 c.pages] 23)
 obtain ⟨y0,y1,y2,y3,y4,y5,y6,y7,y8⟩:=cells9 hrow
 have HROW:=Lib.hid hrow;have HB0:=Lib.hid hb0
 unfold Cf.val
 clear hrow hb0
 have HOK:=Lib.hid (mc0_ok h)
 have hcp:=h.procs
 obtain ⟨n,hn⟩:=Int.eq_ofNat_of_zero_le (show 0≤c.procs by omega)
 have HPR:Hid ((mc0 c).pr=n):=by show c.procs.toNat=n;rw [hn];rfl
 have HCN:=Lib.hid hn
 have hnn:1≤n∧n≤64:=by omega
 have d0:decide (c.page < 16)=false:=decide_eq_false (by have h1:=h.page;have h2:=h.procs;have h3:=h.regions;have h4:=h.pages;omega)
 have d1:decide (4096 < c.page)=false:=decide_eq_false (by have h1:=h.page;have h2:=h.procs;have h3:=h.regions;have h4:=h.pages;omega)
 have d2:decide (c.procs < 1)=false:=decide_eq_false (by have h1:=h.page;have h2:=h.procs;have h3:=h.regions;have h4:=h.pages;omega)
 have d3:decide (64 < c.procs)=false:=decide_eq_false (by have h1:=h.page;have h2:=h.procs;have h3:=h.regions;have h4:=h.pages;omega)
 have d4:decide (c.regions < 1)=false:=decide_eq_false (by have h1:=h.page;have h2:=h.procs;have h3:=h.regions;have h4:=h.pages;omega)
 have d5:decide (32 < c.regions)=false:=decide_eq_false (by have h1:=h.page;have h2:=h.procs;have h3:=h.regions;have h4:=h.pages;omega)
 have d6:decide (c.pages < 1)=false:=decide_eq_false (by have h1:=h.page;have h2:=h.procs;have h3:=h.regions;have h4:=h.pages;omega)
 have d7:decide (65536 < c.pages)=false:=decide_eq_false (by have h1:=h.page;have h2:=h.procs;have h3:=h.regions;have h4:=h.pages;omega)
 rw [hn] at y6
 have HCS:=Lib.hid (rnew_yes n (w.alloc (.cells #[.int .i64 c.a0,.int .i64 c.a1,.int .i64 c.a2,.int .i64 c.a3,.int .i64 c.page,.int .i64 c.a5,.int .i64 c.procs,.int .i64 c.regions,.int .i64 c.pages] 23)) hnn.1 hnn.2)
 simp only [hn] at HCS d2 d3 y0 y1 y2 y3 y4 y5 y7 y8 HB0 HROW
 rw [hn];clear h hcp hn
 go_enter Tryz.func7,Tryz.ntmps7
 go_wp2_with fail
 refine HCS.out.mono ?_
 rintro e w3 ⟨g,gl,rfl,hg1,hg2,hset,hb3⟩
 have HB3:=Lib.hid (Below.call HB0.out hb3)
 have HST:=Lib.hid hset;replace y0:=cel hb3 y0;replace y1:=cel hb3 y1;replace y2:=cel hb3 y2;replace y3:=cel hb3 y3;replace y4:=cel hb3 y4;replace y5:=cel hb3 y5
 replace y6:=cel hb3 y6;replace y7:=cel hb3 y7;replace y8:=cel hb3 y8
 have HG1:Hid (w.heap.size≤g∧w.heap.size≤gl):=by
  have h1:=HB0.out.size
  exact ⟨by omega,by omega⟩
 clear hset hb3 hg1 hg2 HCS;go_wp2_with fail
 refine' reg_free (G:=Kept) (pickF [eqV _,eqV _,eqV _,eqV _,(fun v w5=>∃ p,v = .slice (some ⟨p,0,none⟩) n n∧w3.heap.size≤p∧w5.heap[p]?=some (.cells (List.replicate n (.pointer none)).toArray 72 (0,0))),(fun v w5=>∃ p,v = .agg #[.int .i64 c.a0,.int .i64 c.a1,.int .i64 c.a2,.int .i64 c.a3,.int .i64 c.page,.int .i64 c.a5,.int .i64 (n:Int),.int .i64 c.regions,.int .i64 c.pages,.pointer (some ⟨g,0,none⟩),.slice (some ⟨p,0,none⟩) n n]∧w3.heap.size≤p∧w5.heap[p]?=some (.cells (List.replicate n (.pointer none)).toArray 72 (0,0))),(fun v w5=>∃ m p,v = .pointer (some ⟨m,0,none⟩)∧w3.heap.size≤m∧w5.heap[m]?=some (.cells #[.int .i64 c.a0,.int .i64 c.a1,.int .i64 c.a2,.int .i64 c.a3,.int .i64 c.page,.int .i64 c.a5,.int .i64 (n:Int),.int .i64 c.regions,.int .i64 c.pages,.pointer (some ⟨g,0,none⟩),.slice (some ⟨p,0,none⟩) n n] 69 (0,0))∧w3.heap.size≤p∧w5.heap[p]?=some (.cells (List.replicate n (.pointer none)).toArray 72 (0,0))),(fun v w5=>∃ m p,v = .pointer (some ⟨m,0,none⟩)∧w3.heap.size≤m∧w5.heap[m]?=some (.cells #[.int .i64 c.a0,.int .i64 c.a1,.int .i64 c.a2,.int .i64 c.a3,.int .i64 c.page,.int .i64 c.a5,.int .i64 (n:Int),.int .i64 c.regions,.int .i64 c.pages,.pointer (some ⟨g,0,none⟩),.slice (some ⟨p,0,none⟩) n n] 69 (0,0))∧w3.heap.size≤p∧w5.heap[p]?=some (.cells (List.replicate n (.pointer none)).toArray 72 (0,0))),eqV _]) [50,51,52,53,54,55,56,2,3] [[],[],[],[2],[3],[0,1,4],[5],[6],[]] [0,1,2,3,4,5,6,7,8] (by kernel_rfl) Kept.refl Kept.trans (pick_stays ⟨eS _,eS _,eS _,eS _,(fun _ _ _ q b=>by obtain ⟨p,e,h1,h2⟩:=q;exact ⟨p,e,h1,row_keep h2 b⟩),(fun _ _ _ q b=>by obtain ⟨p,e,h1,h2⟩:=q;exact ⟨p,e,h1,row_keep h2 b⟩),(fun _ _ _ q b=>by obtain ⟨m,p,e,h3,h4,h1,h2⟩:=q;exact ⟨m,p,e,h3,row_keep h4 b,h1,row_keep h2 b⟩),(fun _ _ _ q b=>by obtain ⟨m,p,e,h3,h4,h1,h2⟩:=q;exact ⟨m,p,e,h3,row_keep h4 b,h1,row_keep h2 b⟩),eS _,trivial⟩) 57 rfl (by kernel_rfl) (by kernel_rfl) rfl rfl ?r1obl ?r1fin
 case r1obl=>
  refine ⟨?r1o0,?r1o1,?r1o2,?r1o3,?r1o4,?r1o5,?r1o6,?r1o7,?r1o8,trivial⟩
  case r1o0=>
   intro w1 hG;refine t1o (by rfl) ?_;intro K hK
   have hbk:=kept_0 hG
   have z0:=cel hbk y0
   have z1:=cel hbk y1
   have z2:=cel hbk y2
   have z3:=cel hbk y3
   have z4:=cel hbk y4
   have z5:=cel hbk y5
   have z6:=cel hbk y6
   have z7:=cel hbk y7
   have z8:=cel hbk y8
   go_simp;refine hK _ _ ⟨rfl,Kept.refl _,?_⟩;show _=_;simp only [gv1];rfl
  case r1o1 | r1o2 | r1o8=>
   intro w1 hG;refine t1o (by rfl) ?_;intro K hK;go_simp;refine hK _ _ ⟨rfl,Kept.refl _,?_⟩;show _=_;simp only [gv1];rfl
  case r1o3=>
   intro w1 hG;intro v2 h2;change _=_ at h2;subst h2;refine t1o (by rfl) ?_;intro K hK;simp only [gv2]
   have hbk:=kept_0 hG
   have z6:=cel hbk y6
   go_simp;refine hK _ _ ⟨rfl,Kept.refl _,?_⟩;show _=_;simp only [gv1];rfl
  case r1o4=>
   intro w1 hG;intro v3 h3;change _=_ at h3;subst h3;refine t1o (by rfl) ?_;intro K hK;simp only [gv2]
   have hbk:=kept_0 hG
   have hmk:=mk_ptrs n (by have:=hnn.2;omega) w1
   go_simp
   refine hK _ _ ⟨rfl,(Below.refl _ _).alloc (Nat.le_refl _) _,?_⟩
   exact ⟨_,rfl,hbk.size,heap_alloc_new _ _⟩
  case r1o5=>
   intro w1 hG;intro v0 h0;change _=_ at h0;subst h0;intro v1 h1;change _=_ at h1;subst h1;intro v4 h4
   obtain ⟨p4,rfl,hl4,h4⟩:=h4
   refine t1o (by rfl) ?_;intro K hK;simp only [gv2];go_simp;refine hK _ _ ⟨rfl,Kept.refl _,?_⟩
   exact ⟨p4,rfl,hl4,h4⟩
  case r1o6=>
   intro w1 hG;intro v5 h5
   obtain ⟨p5,rfl,hl5,h5⟩:=h5
   refine t1o (by rfl) ?_;intro K hK;simp only [gv2]
   have hbk:=kept_0 hG
   go_simp
   refine hK _ _ ⟨rfl,(Below.refl _ _).alloc (Nat.le_refl _) _,?_⟩
   exact ⟨_,p5,rfl,hbk.size,heap_alloc_new _ _,hl5,row_keep h5 ((Below.refl _ _).alloc (Nat.le_refl _) _)⟩
  case r1o7=>
   intro w1 hG;intro v6 h6
   obtain ⟨m6,p6,rfl,q1,q2,q3,q4⟩:=h6
   refine t1o (by rfl) ?_;intro K hK;simp only [gv2];go_simp;refine hK _ _ ⟨rfl,Kept.refl _,?_⟩
   exact ⟨m6,p6,rfl,q1,q2,q3,q4⟩
 intro w1 hG;intro v0 h0;change _=_ at h0;subst h0;intro v1 h1;change _=_ at h1;subst h1;intro v2 h2;change _=_ at h2;subst h2;intro v3 h3;change _=_ at h3;subst h3;intro v4 h4
 obtain ⟨p4,rfl,hl4,h4⟩:=h4
 intro v5 h5
 obtain ⟨p5,rfl,hl5,h5⟩:=h5
 intro v6 h6
 obtain ⟨m6,p6,rfl,q1,q2,q3,q4⟩:=h6
 intro v7 h7
 obtain ⟨m7,p7,rfl,q1,q2,q3,q4⟩:=h7
 intro v8 h8;change _=_ at h8;subst h8
 simp only [Given,gv2]
 have hbk:=kept_0 hG
 have HF:=Lib.hid (Below.call HB3.out hbk)
 have hsz:=HB3.out.size
 have hst:=HST.out.below hbk
 have hlt:=HST.out.lt
 have Q1:=Lib.hid q1;have Q2:=Lib.hid q2;have Q3:=Lib.hid q3;have Q4:=Lib.hid q4;have HS:=Lib.hid hst;have HLT:=Lib.hid hlt;have HSZ:=Lib.hid hsz;clear hG hbk q1 q2 q3 q4 hst hlt hsz y0 y1 y2 y3 y4 y5 y6 y7 y8;go_wp2_with fail
 go_ret2
 have hne:m7 ≠ p7:=fun e=>by
  have h1:=Q2.out
  rw [e,Q4.out] at h1
  injection h1 with h1
  injection h1 with _ h2 _
  exact absurd h2 (by decide)
 have hmp:=Q1.out
 have hpp:=Q3.out
 have hl:=HLT.out
 have hgg:=HG1.out
 have hsz:=HSZ.out
 have ho:∀ k,RmH.own ⟨m7,g,gl,p7,fun _=>default⟩ (mc0 c) k→k=gl∨k=p7:=fun k hk=>by
  rcases hk with hk | hk | ⟨q,hq,_⟩
  ·exact .inl hk
  ·exact .inr hk
  ·rw [mc0_has] at hq;cases hq
 have hgne:=HS.out.ne
 refine ⟨⟨m7,g,gl,p7,fun _=>default⟩,rfl,⟨?_,⟨n,[],?_⟩,?_,fun q hq=>(by rw [mc0_has] at hq;cases hq),HOK.out,⟨.inl rfl,.inr (.inl rfl),fun hk=>?_,fun hk=>?_⟩,fun q _ _ hq=>(by rw [mc0_has] at hq;cases hq),⟨?_,fun q hq=>(by rw [mc0_has] at hq;cases hq)⟩,fun k hk=>?_⟩,fun k hk=>?_,?_,HF.out⟩
 ·show w1.heap[m7]?=some (rmRow ⟨m7,g,gl,p7,fun _=>default⟩ (mc0 c))
  unfold rmRow
  rw [HPR.out]
  show w1.heap[m7]?=some (Obj.cells #[.int .i64 c.a0,.int .i64 c.a1,.int .i64 c.a2,.int .i64 c.a3,.int .i64 c.page,.int .i64 c.a5,.int .i64 c.procs,.int .i64 c.regions,.int .i64 c.pages,.pointer (some ⟨g,0,none⟩),.slice (some ⟨p7,0,none⟩) n n] 69 (0,0))
  rw [HCN.out]
  exact Q2.out
 ·rw [HPR.out]
  exact HS.out.c hnn.2
 ·show w1.heap[p7]?=_
  rw [Q4.out]
  unfold prRow
  rw [HPR.out]
  congr 3
  apply List.ext_getElem?
  intro i
  by_cases hi:i < n
  ·rw [List.getElem?_replicate,if_pos hi,List.getElem?_map,List.getElem?_range hi]
   show _=some (prV _ (mc0 c) (i:Int))
   unfold prV
   rw [if_neg (by rw [mc0_has];decide)]
  ·rw [List.getElem?_replicate,if_neg hi,List.getElem?_eq_none (by simp;omega)]
 ·rcases ho _ hk with hk | hk
  ·replace hk:m7=gl:=hk;omega
  ·exact hne hk
 ·rcases ho _ hk with hk | hk
  ·exact hgne hk
  ·replace hk:g=p7:=hk;omega
 ·show gl ≠ p7;omega
 ·rcases ho _ hk with hk | hk
  ·have:=HS.out.lt.2;omega
  ·have:=(Array.getElem?_eq_some_iff.1 Q4.out).1;omega
 ·rcases ho _ hk with hk | hk
  ·omega
  ·omega
 ·show w.heap.size≤m7;omega
end
theorem OpsIn.more {w w':World} {No No' Q:Nat→Prop} {a:Option Addr} {n:Nat} {L:List OpP} (h:OpsIn w No a n L) (t:Tn Q w w') (hq:∀ k,Q k→No k) (h2:∀ k,No' k→No k∨w.heap.size≤k):OpsIn w' No' a n L:=
 ⟨h.len,fun i A hA=>by
  obtain ⟨b,o,e,ho⟩:=h.at_ i A hA
  have ho':=ho.tn t hq
  obtain ⟨ta,tn,tc,y,hx⟩:=ho.ex
  have hlt:b < w.heap.size:=block_lt_of_cell y.1
  have h5:=ho'.ex
  obtain ⟨ta2,tn2,tc2,y2,hx2⟩:=h5
  have ee:(Value.slice ta2 tn2 tc2) = .slice ta tn tc:=by
   have e1:=(World.cell?_of_block (a:=⟨b,o+i * 6+5,none⟩) (t.block b hlt (fun e=>ho.no (hq _ e)))).trans y.2.2.2.2.2.1
   have e2:=y2.2.2.2.2.2.1
   rw [e1] at e2
   injection e2 with e2
   exact e2.symm
  injection ee with e1 e2 e3
  subst e1 e2 e3
  refine ⟨b,o,e,⟨_,_,_,y2,fun x hx3 h0 hk=>?_⟩,ho'.wf,fun hk=>?_⟩
  ·rcases h2 _ hk with h | h
   ·exact hx x hx3 h0 h
   ·have:=y.2.2.2.2.2.2.lt x hx3 h0;omega
  ·rcases h2 _ hk with h | h
   ·exact ho.no h
   ·omega⟩
/-- A machine that is new: with more that may turn. -/
theorem RmIn.fresh {w:World} {No No':Nat→Prop} {h:RmH} {c:Cf} (i:RmIn w No h (mc0 c)) (h1:∀ k,h.own (mc0 c) k→No' k) (h2:¬ No' h.m) (h4:¬ No' h.s) (h3:∀ k,No' k→k < w.heap.size):RmIn w No' h (mc0 c):=by
 have h0:∀ p,(mc0 c).has p=true→False:=fun p e=>by rw [mc0_has] at e;cases e
 exact ⟨i.row,i.set,i.prow,fun q hq=>(h0 q hq).elim,i.ok,⟨h1 _ (.inl rfl),h1 _ (.inr (.inl rfl)),h2,h4⟩,fun q q' k hq=>(h0 q hq).elim,⟨i.ne.1,fun q hq=>(h0 q hq).elim⟩,h3⟩
theorem ref_set_ne {w:World} {No No2:Nat→Prop} {h:McH} {hr:RmH} {st st2:Mc} (i:McIn w No h st) (r:RmIn w No2 hr st2):¬ h.own hr.s:=by
 obtain ⟨c,zs,hs⟩:=r.set
 rintro (e | e | e)
 ·have h1:=i.set
  rw [← e] at h1
  exact kinds_ne hs.row h1 (by decide) rfl
 ·obtain ⟨D,E,h1,_⟩:=i.dat
  obtain ⟨es,cl,h2,_⟩:=h1.all
  rw [← e,hs.row] at h2
  cases h2
 ·obtain ⟨D,E,_,h1,_⟩:=i.dat
  obtain ⟨es,cl,h2,_⟩:=h1.all
  rw [← e,hs.row] at h2
  cases h2
def bc (b:Bool):List Value:=[.bool b]
theorem bcC:Cellular bc 1:=⟨fun _=>rfl,fun x u hu=>by
 simp only [bc,List.mem_cons,List.not_mem_nil,or_false] at hu
 subst hu
 rfl,by decide⟩
theorem boolIz:(Tryz.prog.info? 4).map (fun i=>(i.zero,i.size,i.bytes))=some (some (.bool false),1,1):=by kernel_rfl
theorem boolsTz:Tryz.prog.underlying 25=some (.slice 4):=Tryz.underlying25
def bitsL (v:BitVec 64) (n:Nat):List Bool:=(List.range n).map fun i=>v.getLsbD i
theorem bitsL_len (v:BitVec 64) (n:Nat):(bitsL v n).length=n:=by unfold bitsL;rw [List.length_map,List.length_range]
theorem bitsL_flat (v:BitVec 64) (n:Nat):(bitsL v n).flatMap bc=bvals v n:=by
 unfold bitsL bvals bc
 rw [List.flatMap_map]
 induction n with
 | zero=>rfl
 | succ n ih=>rw [List.range_succ,List.flatMap_append,List.map_append,ih];rfl
theorem RSetC.rds {w:World} {g h n c:Nat} {zs:List Value} {v:BitVec 64} (r:RSetC w g h n c zs v):RdS bc 1 w (some ⟨h,0,none⟩) n c (bitsL v n):=
 ⟨bitsL_len _ _,r.cap.1,r.cap.2,fun i x hx=>⟨h,0,rfl,fun j u hu=>by
  have hi:i < n:=by have:=(List.getElem?_eq_some_iff.1 hx).1;rw [bitsL_len] at this;exact this
  have hx2:x=v.getLsbD i:=by
   unfold bitsL at hx
   rw [List.getElem?_map,List.getElem?_range hi] at hx
   injection hx with hx
   exact hx.symm
  have hj:j=0∧u = .bool x:=by
   cases j with
   | zero=>exact ⟨rfl,by injection hu with hu;exact hu.symm⟩
   | succ j=>simp [bc] at hu
  obtain ⟨rfl,rfl⟩:=hj
  have:=r.bit hi
  rw [hx2,← this]
  congr 2
  omega⟩,fun e=>by cases e⟩
theorem OwnsS.rset {w:World} {base n c:Nat} {a:Option Addr} {v:BitVec 64} (h:OwnsS bc 1 4 w base (.slice a n c) (bitsL v n)) (hn:0 < n):∃ g,a=some ⟨g,0,none⟩∧base≤g∧n≤c∧c≤maxLen∧∃ zs,w.heap[g]?=some (.cells (bvals v n ++ zs).toArray 4 (0,0)):=by
 have hrd:=h.rd bcC
 rcases h with ⟨hl,_⟩ | ⟨_,⟨hv,hz⟩ | ⟨g,cap,cur,hv,hb,hh,hnc,hcm,hcs,ht⟩⟩
 ·have h2:=bitsL_len v n
  rw [hl] at h2
  simp at h2
  omega
 ·injection hv with e1 e2 e3
  omega
 ·injection hv with e1 e2 e3
  subst e3
  refine ⟨g,e1,hb,hrd.cap,hrd.max,?_⟩
  rw [bitsL_len,Nat.mul_one,bitsL_flat] at ht
  refine ⟨cur.toList.drop n,?_⟩
  rw [hh]
  congr 2
  apply Array.ext'
  show cur.toList=bvals v n ++ cur.toList.drop n
  rw [← ht,List.take_append_drop]
/-- Blocks that may turn, by their kinds. -/
def TN (w0 w:World) (k:Nat):Prop:=k < w0.heap.size∨∃ cur e',w.heap[k]?=some (.cells cur e' (0,0))∧(e'=80∨e'=5∨e'=4∨e'=72)
theorem TwS.prInK {w0 w:World} {xb:Nat} {H:PrH} {R:List Rg} {M:List (Int × List Int)} {ra:Option Addr} {rn rc:Nat} {la:Option Addr} {ln lc:Nat} (s:TwS w0 w xb H R M ra rn rc la ln lc) (hln:ln=M.length):PrIn w (TN w0 w) H R M:=by
 have p:=s.prIn hln
 subst hln
 have hown:∀ k,H.own M k→TN w0 w k:=by
  rintro y (e | ⟨x,hx,e⟩)
  ·rw [e,s.hb];exact .inr ⟨_,_,s.row,.inl rfl⟩
  ·obtain ⟨h1,h2⟩:=s.pg x hx
   obtain ⟨cur,hh⟩:=h1.kind (Nat.lt_of_lt_of_le h2 h1.rd.cap)
   rw [e]
   exact .inr ⟨_,_,hh,.inr (.inl rfl)⟩
 refine ⟨⟨ra,rn,rc,la,lc,by rw [s.hb];exact s.row,SlV.of_kind rgC s.rg (fun y hy=>hy.imp id (fun h=>?_)),SlV.of_kind pgEC s.ls (fun y hy=>hy.imp id (fun h=>?_))⟩,p.pg,p.inj,p.ne,hown⟩
 ·obtain ⟨cur,e',h1,h2⟩:=h
  exact ⟨cur,e',h1,by rcases h2 with h2 | h2 | h2 | h2 <;> rw [h2] <;> decide⟩
 ·obtain ⟨cur,e',h1,h2⟩:=h
  exact ⟨cur,e',h1,by rcases h2 with h2 | h2 | h2 | h2 <;> rw [h2] <;> decide⟩
theorem TN.keep {w0 w w':World} {k:Nat} (h:w'.heap[k]?=w.heap[k]?):TN w0 w' k↔TN w0 w k:=by unfold TN;rw [h]
theorem TN.cell {w0 w:World} {p i:Nat} {v:Value} {cs:Array Value} {T:TypeId} (hp:w.heap[p]?=some (.cells cs T (0,0))) (k:Nat):TN w0 (w.setCell ⟨p,i,none⟩ v) k↔TN w0 w k:=by
 unfold TN
 by_cases e:k=p
 ·subst e
  rw [heap_setCell_same w k i _ _ _ hp,hp]
  constructor
  ·rintro (h | ⟨cur,e',h1,h2⟩)
   ·exact .inl h
   ·injection h1 with h1
    injection h1 with _ h1
    exact .inr ⟨_,_,rfl,by rw [h1];exact h2⟩
  ·rintro (h | ⟨cur,e',h1,h2⟩)
   ·exact .inl h
   ·injection h1 with h1
    injection h1 with _ h1
    exact .inr ⟨_,_,rfl,by rw [h1];exact h2⟩
 ·rw [heap_setCell_other w ⟨p,i,none⟩ k _ e]
theorem PrIn.kind {w:World} {No:Nat→Prop} {H:PrH} {R:List Rg} {L:List (Int × List Int)} (p:PrIn w No H R L) (hl:∀ x ∈ L,0 < x.2.length):∀ k,H.own L k→∃ cur e',w.heap[k]?=some (.cells cur e' (0,0))∧(e'=80∨e'=5):=by
 rintro k (e | ⟨x,hx,e⟩)
 ·obtain ⟨_,_,_,_,_,e1,_⟩:=p.row
  rw [e];exact ⟨_,_,e1,.inl rfl⟩
 ·have h1:=p.pg x hx
  obtain ⟨cur,hh⟩:=h1.kind (Nat.lt_of_lt_of_le (hl x hx) h1.rd.cap)
  rw [e]
  exact ⟨cur,_,hh,.inr rfl⟩
/-- The twin's row of processes, the first k being there. -/
def prPart (pr:Int→PrH) (st:Mc) (k:Nat):List Value:=(List.range st.pr).map fun (j:Nat)=>if j < k∧st.has (j:Int)=true then .pointer (some ⟨(pr j).b,0,none⟩) else .pointer none
structure TmS (w0 w:World) (hm s sl p:Nat) (pr:Int→PrH) (st:Mc) (k:Nat):Prop where
 row:w.heap[hm]?=some (rmRow ⟨hm,s,sl,p,pr⟩ st)
 set:∃ c zs,RSetC w s sl st.pr c zs st.v
 prow:w.heap[p]?=some (.cells (prPart pr st k).toArray 72 (0,0))
 prs:∀ q:Int,st.has q=true→q < k→PrIn w (TN w0 w) (pr q) (st.rs q) (st.ms q)∧∀ j,(pr q).own (st.ms q) j→w0.heap.size≤j∧j < w.heap.size
 ap:∀ (q q':Int) (j:Nat),st.has q=true→st.has q'=true→q < k→q' < k→(pr q).own (st.ms q) j→(pr q').own (st.ms q') j→q=q'
 lo:w0.heap.size≤hm∧w0.heap.size≤s∧w0.heap.size≤sl∧w0.heap.size≤p
 ok:McOk st
 bel:Below w0.heap.size w0 w
section
variable {w0 w wr:World} {hm s sl p k:Nat} {pr:Int→PrH} {st:Mc} {H':PrH} {xa la:Option Addr} {rn rc ln lc:Nat}
theorem TmS.pos (t:TmS w0 w hm s sl p pr st k) (q:Int):∀ x ∈ st.ms q,0 < x.2.length:=fun x hx=>by have h1:=(t.ok.pg q x hx).1.1;have h2:=t.ok.cf.page;omega
theorem TmS.call {w':World} (t:TmS w0 w hm s sl p pr st k) (b:Below w.heap.size w w'):TmS w0 w' hm s sl p pr st k:=by
 obtain ⟨c,zs,hs⟩:=t.set
 refine ⟨row_keep t.row b,⟨c,zs,hs.below b⟩,row_keep t.prow b,fun q h1 h2=>⟨?_,fun j hj=>⟨((t.prs q h1 h2).2 j hj).1,Nat.lt_of_lt_of_le ((t.prs q h1 h2).2 j hj).2 b.size⟩⟩,t.ap,t.lo,t.ok,Below.trans t.bel (b.mono t.bel.size)⟩
 refine ((t.prs q h1 h2).1.reno (fun j hj=>?_) (fun j hj hn=>(TN.keep (b.block j hj)).1 hn)).tn (Tn.of (Q:=fun _=>False) b) (fun _ h=>h.elim)
 rcases hj with hj | ⟨cur,e',h3,h4⟩
 ·exact .inl hj
 ·exact .inr ⟨cur,e',row_keep h3 b,h4⟩
theorem TmS.skip (t:TmS w0 w hm s sl p pr st k) (hq:st.has (k:Int)=false):TmS w0 w hm s sl p pr st (k+1):=by
 have hlt:∀ q:Int,st.has q=true→q < ((k+1:Nat):Int)→q < k:=fun q h1 h2=>by
  rcases Int.lt_or_le q k with h | h
  ·exact h
  ·have:q=k:=by omega
   rw [this,hq] at h1
   cases h1
 refine ⟨t.row,t.set,?_,fun q h1 h2=>t.prs q h1 (hlt q h1 h2),fun q q' j h1 h2 h3 h4=>t.ap q q' j h1 h2 (hlt q h1 h3) (hlt q' h2 h4),t.lo,t.ok,t.bel⟩
 rw [t.prow]
 congr 3
 unfold prPart
 refine List.map_congr_left (fun j _=>?_)
 by_cases e:j=k
 ·subst e
  rw [if_neg (fun h=>by rw [hq] at h;exact absurd h.2 (by decide)),if_neg (fun h=>by rw [hq] at h;exact absurd h.2 (by decide))]
 ·have:j < k↔j < k+1:=by omega
  simp only [this]
theorem TmS.put (t0:TmS w0 wr hm s sl p pr st k) (t:TmS w0 w hm s sl p pr st k) (hk:k < st.pr) (hq:st.has (k:Int)=true) (u:TwS wr w H'.b H' (st.rs (k:Int)) (st.ms (k:Int)) xa rn rc la ln lc) (hln:ln=(st.ms (k:Int)).length) :
  TmS w0 (w.setCell ⟨p,k,none⟩ (.pointer (some ⟨H'.b,0,none⟩))) hm s sl p (upd pr k H') st (k+1):=by
 have g5:=cell_grown1 w p k (.pointer (some ⟨H'.b,0,none⟩))
 obtain ⟨c,zs,hs⟩:=t.set
 have hkind:∀ (b:Nat) (cs:Array Value) (T:TypeId),w.heap[b]?=some (.cells cs T (0,0))→T ≠ 72→some b ≠ some p:=fun b cs T h hne e=>by
  injection e with e
  exact kinds_ne h t.prow hne e
 have hpp:w.heap[p]?=some (.cells (prPart pr st k).toArray 72 (0,0)):=t.prow
 have hlt:∀ q:Int,q < ((k+1:Nat):Int)→q=k∨q < k:=fun q h=>by omega
 have huk:=u.prInK hln
 have hbd:∀ j,H'.own (st.ms (k:Int)) j→wr.heap.size≤j∧j < w.heap.size:=u.blk
 have hsz:=t0.bel.size
 have up:∀ {q:Int} {R:List Rg} {L:List (Int × List Int)} {H:PrH},PrIn w (TN w0 w) H R L→(∀ x ∈ L,0 < x.2.length)→PrIn (w.setCell ⟨p,k,none⟩ (.pointer (some ⟨H'.b,0,none⟩))) (TN w0 (w.setCell ⟨p,k,none⟩ (.pointer (some ⟨H'.b,0,none⟩)))) H R L:=fun {q R L H} h hl=>by
  refine (h.reno (fun j hj=>(TN.cell hpp j).2 hj) (fun j _ hj=>(TN.cell hpp j).1 hj)).tn ((Tn.refl (fun j=>j=p) w).put g5 (.inl rfl)) (fun j e=>?_)
  rw [e]
  refine ⟨(TN.cell hpp p).2 (.inr ⟨_,_,hpp,.inr (.inr (.inr rfl))⟩),fun ho=>?_⟩
  obtain ⟨cur,e',h1,h2⟩:=h.kind hl p ho
  exact kinds_ne h1 hpp (by rcases h2 with h2 | h2 <;> rw [h2] <;> decide) rfl
 refine ⟨?_,⟨c,zs,hs.at (g5.block _ hs.lt.1 (hkind _ _ _ hs.row (by decide))) (g5.block _ hs.lt.2 (hkind _ _ _ hs.own (by decide)))⟩,?_,fun q h1 h2=>?_,fun q q' j h1 h2 h3 h4 o1 o2=>?_,t.lo,t.ok,Below.grown t.bel g5 t.bel.size (fun y e=>by injection e with e;rw [← e];exact t.lo.2.2.2)⟩
 ·exact (g5.block hm (Array.getElem?_eq_some_iff.1 t.row).1 (hkind _ _ _ t.row (by decide))).trans t.row
 ·rw [heap_setCell_same w p k _ _ _ hpp,bytes_set]
  congr 3
  refine List.ext_getElem? (fun j=>?_)
  unfold prPart
  rw [List.getElem?_set,List.length_map,List.length_range,List.getElem?_map,List.getElem?_map]
  by_cases e:k=j
  ·subst e
   rw [if_pos rfl,if_pos hk,List.getElem?_range hk,Option.map_some,if_pos ⟨by omega,hq⟩,upd_same]
  ·rw [if_neg e]
   by_cases hj:j < st.pr
   ·rw [List.getElem?_range hj,Option.map_some,Option.map_some,upd_other _ _ (by omega)]
    have:(j < k)↔(j < k+1):=by omega
    simp only [this]
   ·rw [List.getElem?_eq_none (by rw [List.length_range];omega)];rfl
 ·rcases hlt q h2 with e | e
  ·rw [e,upd_same]
   refine ⟨up (q:=k) (huk.less (fun j hj=>?_) (fun j hj=>?_)) (t.pos k),fun j hj=>⟨Nat.le_trans hsz (hbd j hj).1,Nat.lt_of_lt_of_le (hbd j hj).2 g5.size⟩⟩
   ·rcases hj with hj | hj
    ·exact .inl (Nat.lt_of_lt_of_le hj hsz)
    ·exact .inr hj
   ·obtain ⟨cur,e',h3,h4⟩:=huk.kind (t.pos k) j hj
    exact .inr ⟨cur,e',h3,by rcases h4 with h4 | h4;exact .inl h4;exact .inr (.inl h4)⟩
  ·rw [upd_other _ _ (by omega)]
   exact ⟨up (q:=q) (t.prs q h1 e).1 (t.pos q),fun j hj=>⟨((t.prs q h1 e).2 j hj).1,Nat.lt_of_lt_of_le ((t.prs q h1 e).2 j hj).2 g5.size⟩⟩
 ·rcases hlt q h3 with e | e <;> rcases hlt q' h4 with e' | e'
  ·rw [e,e']
  ·rw [e,upd_same] at o1
   rw [upd_other _ _ (by omega)] at o2
   have h5:=(hbd j o1).1
   have h6:=((t0.prs q' h2 e').2 j o2).2
   omega
  ·rw [e',upd_same] at o2
   rw [upd_other _ _ (by omega)] at o1
   have h5:=(hbd j o2).1
   have h6:=((t0.prs q h1 e).2 j o1).2
   omega
  ·rw [upd_other _ _ (by omega)] at o1 o2
   exact t.ap q q' j h1 h2 e e' o1 o2
theorem TmS.done {No:Nat→Prop} (t:TmS w0 w hm s sl p pr st st.pr) (hno:∀ j,No j→j < w0.heap.size):RmIn w (fun j=>No j∨RmH.own ⟨hm,s,sl,p,pr⟩ st j) ⟨hm,s,sl,p,pr⟩ st∧(∀ j,RmH.own ⟨hm,s,sl,p,pr⟩ st j→w0.heap.size≤j)∧w0.heap.size≤hm:=by
 obtain ⟨c,zs,hs⟩:=t.set
 have hqp:∀ q,st.has q=true→q < (st.pr:Int):=fun q h=>by
  have h1:=t.ok.prI
  unfold Mc.has hasB at h
  simp at h
  omega
 have hkd:∀ j,RmH.own ⟨hm,s,sl,p,pr⟩ st j→∃ cur e',w.heap[j]?=some (.cells cur e' (0,0))∧(e'=80∨e'=5∨e'=4∨e'=72):=by
  rintro j (e | e | ⟨q,hq,hj⟩)
  ·rw [e];exact ⟨_,_,hs.own,.inr (.inr (.inl rfl))⟩
  ·rw [e];exact ⟨_,_,t.prow,.inr (.inr (.inr rfl))⟩
  ·obtain ⟨cur,e',h1,h2⟩:=(t.prs q hq (hqp q hq)).1.kind (t.pos q) j hj
   exact ⟨cur,e',h1,by rcases h2 with h2 | h2;exact .inl h2;exact .inr (.inl h2)⟩
 have hlo:∀ j,RmH.own ⟨hm,s,sl,p,pr⟩ st j→w0.heap.size≤j:=by
  rintro j (e | e | ⟨q,hq,hj⟩)
  ·rw [e];exact t.lo.2.2.1
  ·rw [e];exact t.lo.2.2.2
  ·exact ((t.prs q hq (hqp q hq)).2 j hj).1
 have htn:∀ j,No j∨RmH.own ⟨hm,s,sl,p,pr⟩ st j→TN w0 w j:=fun j hj=>hj.imp (hno j) (hkd j)
 have hx:∀ (b:Nat) (cs:Array Value) (T:TypeId),w.heap[b]?=some (.cells cs T (0,0))→w0.heap.size≤b→T ≠ 80→T ≠ 5→T ≠ 4→T ≠ 72→¬ (No b∨RmH.own ⟨hm,s,sl,p,pr⟩ st b):=fun b cs T h1 h2 n1 n2 n3 n4 hb=>by
  rcases hb with hb | hb
  ·have:=hno b hb;omega
  ·obtain ⟨cur,e',h3,h4⟩:=hkd b hb
   refine kinds_ne h1 h3 ?_ rfl
   rcases h4 with h4 | h4 | h4 | h4 <;> rw [h4] <;> assumption
 refine ⟨⟨t.row,⟨c,zs,hs⟩,?_,fun q hq=>(t.prs q hq (hqp q hq)).1.less htn (fun j hj=>.inr (.inr (.inr ⟨q,hq,hj⟩))),t.ok,⟨.inr (.inl rfl),.inr (.inr (.inl rfl)),hx _ _ _ t.row t.lo.1 (by decide) (by decide) (by decide) (by decide),hx _ _ _ hs.row t.lo.2.1 (by decide) (by decide) (by decide) (by decide)⟩,fun q q' j h1 h2=>t.ap q q' j h1 h2 (hqp q h1) (hqp q' h2),⟨fun e=>kinds_ne hs.own t.prow (by decide) e,fun q hq=>⟨fun hj=>?_,fun hj=>?_⟩⟩,fun j hj=>?_⟩,hlo,t.lo.1⟩
 ·refine t.prow.trans (congrArg (fun l:List Value=>some (Obj.cells l.toArray 72 (0,0))) ?_)
  unfold prPart prRow
  refine List.map_congr_left (fun j hj=>?_)
  have hj2:j < st.pr:=List.mem_range.1 hj
  unfold prV
  simp only [hj2,true_and]
 ·obtain ⟨cur,e',h1,h2⟩:=(t.prs q hq (hqp q hq)).1.kind (t.pos q) sl hj
  exact kinds_ne h1 hs.own (by rcases h2 with h2 | h2 <;> rw [h2] <;> decide) rfl
 ·obtain ⟨cur,e',h1,h2⟩:=(t.prs q hq (hqp q hq)).1.kind (t.pos q) p hj
  exact kinds_ne h1 t.prow (by rcases h2 with h2 | h2 <;> rw [h2] <;> decide) rfl
 ·rcases hj with hj | hj
  ·have:=hno j hj;have:=t.bel.size;omega
  ·obtain ⟨cur,e',h3,_⟩:=hkd j hj
   exact (Array.getElem?_eq_some_iff.1 h3).1
end
theorem TwS.low {w0 w1 w:World} {xb:Nat} {H:PrH} {R:List Rg} {M:List (Int × List Int)} {ra:Option Addr} {rn rc:Nat} {la:Option Addr} {ln lc:Nat} (s:TwS w1 w xb H R M ra rn rc la ln lc) (b:Below w0.heap.size w0 w1):TwS w0 w xb H R M ra rn rc la ln lc:=
 ⟨s.row,s.rg.mono b.size,s.ls.mono b.size,fun x hx=>⟨(s.pg x hx).1.mono b.size,(s.pg x hx).2⟩,s.inj,s.hb,Nat.le_trans b.size s.new,Below.call b s.bel⟩
theorem prPart_at {pr:Int→PrH} {st:Mc} {k:Nat} (hk:k < st.pr):(prPart pr st k)[k]?=some (.pointer none):=by
 unfold prPart
 rw [List.getElem?_map,List.getElem?_range hk,Option.map_some,if_neg (by omega)]
section
variable {No:Nat→Prop} {h:RmH} {st:Mc} {w:World}
set_option maxHeartbeats 4000000 in
theorem rtwinM_any (i:RmIn w No h st):Calls Tryz.prog 8 #[.pointer (some ⟨h.m,0,none⟩)] w fun e w'=>∃ h':RmH,e = .returned (.pointer (some ⟨h'.m,0,none⟩))∧RmIn w' (fun j=>No j∨h'.own st j) h' st∧(∀ j,h'.own st j→w.heap.size≤j)∧w.heap.size≤h'.m∧Below w.heap.size w w':=by
 have hrow:=i.row
 unfold rmRow at hrow
 have z0:=cell_of_row w h.m 0 _ _ _ hrow
 have z1:=cell_of_row w h.m 1 _ _ _ hrow
 have z2:=cell_of_row w h.m 2 _ _ _ hrow
 have z3:=cell_of_row w h.m 3 _ _ _ hrow
 have z4:=cell_of_row w h.m 4 _ _ _ hrow
 have z5:=cell_of_row w h.m 5 _ _ _ hrow
 have z6:=cell_of_row w h.m 6 _ _ _ hrow
 have z7:=cell_of_row w h.m 7 _ _ _ hrow
 have z8:=cell_of_row w h.m 8 _ _ _ hrow
 have hn:=rnew18_yes st.c w i.ok.cf
 unfold Cf.val at hn
 have HN:=Lib.hid hn;have HI:=Lib.hid i
 have hpr1:=i.ok.prL
 have hprl:(st.pr:Int)≤64:=by omega
 obtain ⟨_,_,_,_,c9,c10⟩:=i.cells
 obtain ⟨zc,zs,hset⟩:=i.set
 have HSET:=Lib.hid hset
 have hd:=hset.head
 have HC10:=Lib.hid c10;clear hrow hn i hset
 go_enter Tryz.func8,Tryz.ntmps8
 go_wp2_with fail
 refine HN.out.mono ?_
 rintro e w2 ⟨hh,rfl,hi2,hown,hhm,hb2⟩
 have HI2:=Lib.hid hi2;have HOWN:=Lib.hid hown;have HHM:=Lib.hid hhm;have HB2:=Lib.hid hb2
 have HRD:=Lib.hid (HSET.out.below hb2).rds
 replace c9:=cel hb2 c9;replace hd:=cel hb2 hd
 have hlm:h.m < w2.heap.size:=block_lt_of_cell c9
 have hls:h.s < w2.heap.size:=block_lt_of_cell hd
 have hpr0:(mc0 st.c).pr=st.pr:=rfl
 have HR2:=Lib.hid hi2.row;clear hi2 hown hhm hb2 z0 z1 z2 z3 z4 z5 z6 z7 z8 c10 HN
 go_wp2_with (first | (rw [HW5.out]) | (at_builtin;refine appS_all bcC boolsTz boolIz rfl (by decide) rfl (.tmp 15) (.tmp 22) rfl _ w2.heap.size _ [] rfl (OwnsS.empty _ _ _ _ _ _ _) (some ⟨h.sl,0,none⟩) st.pr zc (bitsL st.v st.pr) rfl (HRD.out.alloc _) (by simp;omega) (by simp) ?_;intro v3 w3 ho3 hg3;rw [List.nil_append] at ho3;obtain ⟨ga,gc,rfl⟩:=ho3.shapeN st.pr (bitsL_len _ _);have hb3:Below w2.heap.size w2 w3:=hg3.fromEmpty;obtain ⟨g,rfl,hgb,hnc,hcm,zs3,hgrow⟩:=ho3.rset (by omega);have hr3:=row_keep HR2.out hb3;have hr4:(w3.alloc (.cells #[.slice (some ⟨g,0,none⟩) st.pr gc] 71)).heap[hh.m]?=_:=row_keep hr3 (below_a w3 _);have c4:=cell_of_row _ hh.m 9 _ _ _ hr4;have f4:=frozen_of_row _ hh.m 9 _ _ hr4;have HB3:=Lib.hid hb3;have HGB:=Lib.hid hgb;have HNC:=Lib.hid (show st.pr≤gc∧gc≤maxLen from ⟨hnc,hcm⟩);have HG:=Lib.hid hgrow;have HR4:=Lib.hid hr4;have HW5E:∃ y,(w3.alloc (.cells #[.slice (some ⟨g,0,none⟩) st.pr gc] 71)).setCell ⟨hh.m,9,none⟩ (.pointer (some ⟨w3.heap.size,0,none⟩))=y:=⟨_,rfl⟩;obtain ⟨w5,hw5⟩:=HW5E;have HW5:=Lib.hid hw5;clear hw5 ho3 hg3 hb3 hgb hnc hcm hgrow hr3 hr4))
 have hts:TmS w w5 hh.m w3.heap.size g hh.p hh.pr st 0:=by
  have hb4:Below w3.heap.size w3 (w3.alloc (.cells #[.slice (some ⟨g,0,none⟩) st.pr gc] 71)):=below_a w3 _
  have g5:=cell_grown1 (w3.alloc (.cells #[.slice (some ⟨g,0,none⟩) st.pr gc] 71)) hh.m 9 (.pointer (some ⟨w3.heap.size,0,none⟩))
  have s2:=HB2.out.size
  have s3:=HB3.out.size
  have hmlt:hh.m < w2.heap.size:=(Array.getElem?_eq_some_iff.1 HR2.out).1
  have hplt:hh.p < w2.heap.size:=HI2.out.lt _ HI2.out.no.2.1
  have hpm:hh.p ≠ hh.m:=fun e=>HI2.out.no.2.2.1 (by rw [← e];exact HI2.out.no.2.1)
  have hp3:=row_keep (row_keep HI2.out.prow HB3.out) hb4
  rw [HW5.out] at g5
  refine ⟨?_,⟨gc,zs3,?_,?_,fun e=>(by have:=(Array.getElem?_eq_some_iff.1 HG.out).1;omega),HNC.out⟩,?_,fun q _ h2=>by have:=hasB_pos ‹_›;omega,fun q q' j _ _ h2=>by have:=hasB_pos ‹st.has q=true›;omega,⟨HHM.out,by omega,by have:=HGB.out;omega,HOWN.out _ (.inr (.inl rfl))⟩,HI.out.ok,Below.grown (Below.trans HB2.out ((Below.trans HB3.out (hb4.mono s3)).mono s2)) g5 (by have:=hb4.size;omega) (fun y e=>by injection e with e;rw [← e];exact HHM.out)⟩
  ·rw [← HW5.out,heap_setCell_same _ hh.m 9 _ _ _ HR4.out]
   rfl
  ·exact (g5.block _ (by simp) (fun e=>by injection e with e;omega)).trans (heap_alloc_new w3 _)
  ·exact (g5.block _ (by have:=(Array.getElem?_eq_some_iff.1 HG.out).1;simp;omega) (fun e=>by injection e with e;have:=HGB.out;omega)).trans (row_keep HG.out hb4)
  ·refine (g5.block _ (Array.getElem?_eq_some_iff.1 hp3).1 (fun e=>by injection e with e;exact hpm e)).trans (hp3.trans ?_)
   congr 3
   unfold prRow prPart
   rw [hpr0]
   refine List.map_congr_left (fun j _=>?_)
   unfold prV
   rw [mc0_has,if_neg (by decide),if_neg (by omega)]
 have HTS:=Lib.hid hts
 obtain ⟨s2,hs2⟩:∃ y,w3.heap.size=y:=⟨_,rfl⟩
 rw [hs2] at HTS;clear hts c9 hd hpr0 hs2 HW5 HR4 HG HNC HGB HB3 HR2 HI2 HOWN HHM HB2 HRD HSET c4 f4
 go_loopw [5] (fun i wr=>∃ (k:Nat) (pr:Int→PrH),k≤st.pr∧i = .int .i64 k∧Hid (TmS w wr hh.m s2 g hh.p pr st k)) (fun i _=>st.pr - (intOf i).toNat)
 case atStart=>exact ⟨0,_,by omega,rfl,HTS⟩
 case round=>
  obtain ⟨k,pr,hk,rfl,T⟩:=hrel
  have hbel:=T.out.bel
  have c10r:=cel hbel HC10.out
  by_cases hkn:k < st.pr
  ·have hkp:(k:Int) < (st.pr:Int):=by omega
   by_cases hq:st.has (k:Int)=true
   ·obtain ⟨q,hq1,hq2,cp⟩:=HI.out.ptr hq
    obtain rfl:k=q:=by omega
    have HCP:=Lib.hid (cel hbel cp)
    have cpr:=HCP.out
    have HC:=Lib.hid c10r;have HQ:=Lib.hid hq;have HBEL:=Lib.hid hbel
    have hrl:(st.rs (k:Int)).length≤1000:=by have h1:=(HI.out.ok.cn (k:Int)).few;have h2:=HI.out.ok.cf.regions;omega
    have hpl:∀ x ∈ st.ms (k:Int),0 < x.2.length∧x.2.length≤4096:=fun x hx=>by have h1:=(HI.out.ok.pg (k:Int) x hx).1.1;have h2:=HI.out.ok.cf.page;omega
    have HRL:=Lib.hid hrl;have HPL:=Lib.hid hpl;clear hq1 hq2 hq cp hbel hrl hpl;go_wp2_with fail
    refine' reg_kill [(14,12)] [eqV _,eqV _,eqV _,eqV _,eqV _,eqV _,eqV _,eqV _,eqV _,eqV _,eqV _,eqV _,(fun v w5=>∃ (H':PrH) (xa:Option Addr) (rn rc:Nat) (la:Option Addr) (lc:Nat),v=Value.pointer (some ⟨H'.b,0,none⟩)∧TwS wr w5 H'.b H' (st.rs (k:Int)) (st.ms (k:Int)) xa rn rc la (st.ms (k:Int)).length lc),eqV _,(fun _ w5=>∃ pr':Int→PrH,TmS w w5 hh.m s2 g hh.p pr' st (k+1))] [(14,fun _ _=>True)] [(3,fun w5=>TmS w w5 hh.m s2 g hh.p pr st k),(8,fun w5=>Below wr.heap.size wr w5),(11,fun w5=>Below wr.heap.size wr w5),(12,fun w5=>Below wr.heap.size wr w5),(14,fun w5=>TmS w w5 hh.m s2 g hh.p pr st k)] [45,46,47,48,49,50,51,52,53,54,55,56,57,58,74] [[],[0],[1],[2],[],[],[5],[6],[7],[],[8,9],[10],[11],[3,4],[12,13]] [0,1,2,3,4,5,6,7,8,9,10,11,12,13,14] 15 (by kernel_rfl) (by kernel_rfl) ⟨eS _,eS _,eS _,eS _,eS _,eS _,eS _,eS _,eS _,eS _,eS _,eS _,fun _ _ _ p b=>by obtain ⟨H',xa,rn,rc,la,lc,e,u⟩:=p;exact ⟨H',xa,rn,rc,la,lc,e,u.call b⟩,eS _,fun _ _ _ p b=>by obtain ⟨pr',h⟩:=p;exact ⟨pr',h.call b⟩,trivial⟩ ⟨⟨.inl (eS _),.inl (eS _),.inl (eS _),.inl (eS _),.inl (eS _),.inl (eS _),.inl (eS _),.inl (eS _),.inl (eS _),.inl (eS _),.inl (eS _),.inl (eS _),.inr (.inr (.inr (by kernel_rfl))),.inl (eS _),.inr (.inr (.inl rfl)),trivial⟩,trivial⟩ ⟨fun _ _ p b=>TmS.call p b,fun _ _ p b=>Below.call p b,fun _ _ p b=>Below.call p b,fun _ _ p b=>Below.call p b,fun _ _ p b=>TmS.call p b,trivial⟩ ⟨⟨.inr (.inl (by kernel_rfl)),.inr (.inl (by kernel_rfl)),.inr (.inl (by kernel_rfl)),.inr (.inl (by kernel_rfl)),.inr (.inr rfl),trivial⟩,trivial⟩ ⟨(T.out.call (Below.refl wr.heap.size wr).drew),(Below.refl wr.heap.size wr).drew,(Below.refl wr.heap.size wr).drew,(Below.refl wr.heap.size wr).drew,(T.out.call (Below.refl wr.heap.size wr).drew),trivial⟩ 60 rfl (by kernel_rfl) (by kernel_rfl) rfl rfl 15 rfl ?q1obl ?q1fin
    case q1obl=>
     refine ⟨?q1o0,?q1o1,?q1o2,?q1o3,?q1o4,?q1o5,?q1o6,?q1o7,?q1o8,?q1o9,?q1o10,?q1o11,?q1o12,?q1o13,?q1o14,trivial⟩
     case q1o0 | q1o4 | q1o5 | q1o9=>
      intro w1 hI;refine t2o (by rfl) ?_;intro K hK;go_simp;refine hK _ _ ⟨rfl,Kept.refl _,?_⟩;show _=_;simp only [gv1];rfl
     case q1o1 | q1o2=>
      intro w1 hI;intro va ha;change _=_ at ha;subst va;refine t2o (by rfl) ?_;intro K hK;simp only [gv2];go_simp;refine hK _ _ ⟨rfl,Kept.refl _,?_⟩;show _=_;simp only [gv1];rfl
     case q1o3=>
      intro w1 hI
      replace hI:(fun w5=>TmS w w5 hh.m s2 g hh.p pr st k) w1:=hI
      intro v2 h2;change _=_ at h2;subst v2;refine t2o (by rfl) ?_;intro K hK;simp only [gv2]
      have hc:=cell_of_row w1 hh.m 10 _ _ _ hI.row
      go_simp;refine hK _ _ ⟨rfl,Kept.refl _,?_⟩;show _=_;simp only [gv1];rfl
     case q1o6 | q1o7=>
      intro w1 hI;intro va ha;change _=_ at ha;subst va;refine t2o (by rfl) ?_;intro K hK;simp only [gv2];go_simp;refine hK _ _ ⟨rfl,Kept.refl _,?_⟩;show _=_;simp only [gv1];rfl
     case q1o8=>
      intro w1 hI
      replace hI:(fun w5=>Below wr.heap.size wr w5) w1:=hI
      intro v7 h7;change _=_ at h7;subst v7;refine t2o (by rfl) ?_;intro K hK;simp only [gv2]
      have hc:=cel hI HC.out
      go_simp;refine hK _ _ ⟨rfl,Kept.refl _,?_⟩;show _=_;simp only [gv1];rfl
     case q1o10=>
      intro w1 hI;intro va ha;change _=_ at ha;subst va;intro vb hb;change _=_ at hb;subst vb;refine t2o (by rfl) ?_;intro K hK;simp only [gv2];go_simp;refine hK _ _ ⟨rfl,Kept.refl _,?_⟩;show _=_;simp only [gv1];rfl
     case q1o11=>
      intro w1 hI
      replace hI:(fun w5=>Below wr.heap.size wr w5) w1:=hI
      intro v10 h10;change _=_ at h10;subst v10;refine t2o (by rfl) ?_;intro K hK;simp only [gv2]
      have hc:=cel hI HCP.out
      go_simp;refine hK _ _ ⟨rfl,Kept.refl _,?_⟩;show _=_;simp only [gv1];rfl
     case q1o12=>
      intro w1 hI
      replace hI:(fun w5=>Below wr.heap.size wr w5) w1:=hI
      intro v11 h11;change _=_ at h11;subst v11;refine t2o (by rfl) ?_;intro K hK;simp only [gv2];go_simp
      have hb1:Below w.heap.size w w1:=Below.trans HBEL.out (hI.mono HBEL.out.size)
      refine Calls.mono (rtwin_raw ((HI.out.pr (k:Int) HQ.out).tn (Tn.of (Q:=fun _=>False) hb1) (fun _ h=>h.elim)) (HI.out.ok.srt (k:Int)) (by have:=HI.out.ok.few (k:Int);omega) HRL.out HPL.out) ?_
      rintro e w9 ⟨H',rfl,xa,rn,rc,la,lc,s9⟩
      refine hK _ _ ⟨rfl,s9.bel,?_⟩
      exact ⟨H',xa,rn,rc,la,lc,rfl,s9.low hI⟩
     case q1o13=>
      intro w1 hI;intro va ha;change _=_ at ha;subst va;intro vb hb;change _=_ at hb;subst vb;refine t2o (by rfl) ?_;intro K hK;simp only [gv2];go_simp;refine hK _ _ ⟨rfl,Kept.refl _,?_⟩;show _=_;simp only [gv1];rfl
     case q1o14=>
      intro w1 hI
      replace hI:(fun w5=>TmS w w5 hh.m s2 g hh.p pr st k) w1:=hI
      intro v12 h12
      obtain ⟨H12,xa12,rn12,rc12,la12,lc12,rfl,u12⟩:=h12
      intro v13 h13;change _=_ at h13;subst v13;refine t2o (by rfl) ?_;intro K hK;simp only [gv2]
      have hc:=cell_of_row w1 hh.p k _ _ _ hI.prow
      rw [List.getElem?_toArray,prPart_at hkn] at hc
      have hf:=frozen_of_row w1 hh.p k _ _ hI.prow
      go_simp
      refine hK _ _ ⟨rfl,trivial,?_⟩
      exact ⟨_,T.out.put hI hkn HQ.out u12 rfl⟩
    intro w6 hI;intro v0 h0;replace h0:=h0 (by kernel_rfl);change _=_ at h0;subst v0;intro v1 h1;replace h1:=h1 (by kernel_rfl);change _=_ at h1;subst v1;intro v2 h2;replace h2:=h2 (by kernel_rfl);change _=_ at h2;subst v2;intro v3 h3;replace h3:=h3 (by kernel_rfl);change _=_ at h3;subst v3;intro v4 h4;replace h4:=h4 (by kernel_rfl);change _=_ at h4;subst v4
    intro v5 h5;replace h5:=h5 (by kernel_rfl);change _=_ at h5;subst v5;intro v6 h6;replace h6:=h6 (by kernel_rfl);change _=_ at h6;subst v6;intro v7 h7;replace h7:=h7 (by kernel_rfl);change _=_ at h7;subst v7;intro v8 h8;replace h8:=h8 (by kernel_rfl);change _=_ at h8;subst v8;intro v9 h9;replace h9:=h9 (by kernel_rfl);change _=_ at h9;subst v9;intro v10 h10
    replace h10:=h10 (by kernel_rfl);change _=_ at h10;subst v10;intro v11 h11;replace h11:=h11 (by kernel_rfl);change _=_ at h11;subst v11;intro v12 _;intro v13 h13;replace h13:=h13 (by kernel_rfl);change _=_ at h13;subst v13;intro v14 h14;replace h14:=h14 (by kernel_rfl)
    obtain ⟨pr14,t14⟩:=h14
    simp only [Given,gv2]
    have H14:=Lib.hid t14;clear t14 hI;go_wp2_with fail
    go_roundw
    case rel=>exact ⟨k+1,_,by omega,by go_num,H14⟩
    case measure=>simp [intOf] <;> omega
   ·have hq':st.has (k:Int)=false:=by simpa using hq
    have cp:=HI.out.ptr_no hkn hq'
    have cpr:=cel hbel cp
    have T1:=Lib.hid (T.out.skip hq')
    clear hq hq' cp hbel;go_wp2_with fail
    go_roundw
    case rel=>exact ⟨k+1,_,by omega,by go_num,T1⟩
    case measure=>simp [intOf] <;> omega
  ·obtain rfl:k=st.pr:=by omega
   obtain ⟨d1,d2,d3⟩:=T.out.done (No:=No) (fun j hj=>HI.out.lt j hj)
   have D1:=Lib.hid d1;have D2:=Lib.hid d2;clear d1 d2 hbel;go_wp2_with fail
   go_ret
   exact ⟨⟨hh.m,s2,g,hh.p,pr⟩,rfl,D1.out,D2.out,d3,T.out.bel⟩
end
end Go.Proofs.YtoepnbfifjgpfaaGreat
