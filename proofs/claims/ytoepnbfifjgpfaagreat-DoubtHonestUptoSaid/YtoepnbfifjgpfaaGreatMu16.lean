/- The machine: what there is. The machine: whether bytes may be used in some ways. -/
import Derived.Test.YtoepnbfifjgpfaaGreatMu0
import Derived.Test.YtoepnbfifjgpfaaGreatMu15
import Derived.WalkKit
import Derived.ProofKit
import Derived.BigQuiet
import Derived.Deep.QuietTactic
import Derived.Lib.Hide
import Derived.Test.YtoepnbfifjgpfaaGreatMu3
import Derived.Test.YtoepnbfifjgpfaaGreatMu10
import Derived.RegionTactic
namespace Go.Proofs.YtoepnbfifjgpfaaGreat
set_option maxRecDepth 100000
open Go.RowKit
theorem mkI5:(Tryz.prog.info? 5).map (fun i=>(i.zero,i.size,i.bytes))=some (some (.int .u8 0),1,1):=by kernel_rfl
theorem mk_bytes5 (n:Nat) (hn:n≤1000000) (w:World):(Instr.makeSlice 37 (.int .i64 (n:Int)) (.int .i64 (n:Int))).run Tryz.prog w = .ok (.slice (some ⟨w.heap.size,0,none⟩) n n) (w.alloc (.cells (List.replicate n (.int .u8 0)).toArray 5)):=by
 obtain ⟨i,hi,hz,hs,hb⟩:=info_parts mkI5
 have hr:=run_make (P:=Tryz.prog) w 37 5 i (.int .u8 0) u8T hi hz .i64 .i64 n n (by omega) (Int.le_refl _) (by rw [hb];omega) (by omega)
 rw [hr,hs,Int.toNat_natCast,Nat.mul_one]
 congr 4
 rw [show (Value.int .u8 0).cells = #[.int .u8 0] from rfl,← toList_madeCells_one]
theorem zeros_own5 (n:Nat) (hn:n≤1000000) (w:World):Owns .u8 5 (w.alloc (.cells (List.replicate n (.int .u8 0)).toArray 5)) w.heap.size (.slice (some ⟨w.heap.size,0,none⟩) n n) (List.replicate n 0):=by
 refine ⟨fun x hx=>by rw [List.eq_of_mem_replicate hx];rfl,.inr ?_⟩
 have:=World.ownsRow_lit (base:=w.heap.size) (e:=5) (size:=1) w (List.replicate n (.int .u8 0)).toArray n (Nat.le_refl _) (by unfold maxLen;omega) (by simp)
 simpa using this
theorem mkN5 (n:Int) (h0:0≤n) (hn:n≤1000000) (w:World):∃ w',(Instr.makeSlice 37 (.int .i64 n) (.int .i64 n)).run Tryz.prog w = .ok (.slice (some ⟨w.heap.size,0,none⟩) n.toNat n.toNat) w'∧Owns .u8 5 w' w.heap.size (.slice (some ⟨w.heap.size,0,none⟩) n.toNat n.toNat) (zeroP n)∧Below w.heap.size w w':=by
 have:=mk_bytes5 n.toNat (by omega) w
 rw [Int.toNat_of_nonneg h0] at this
 exact ⟨_,this,zeros_own5 n.toNat (by omega) w,(Below.refl _ _).alloc (Nat.le_refl _) _⟩
/-- Ends with a page's bytes, which nobody will turn. -/
def GivesPage (No:Nat→Prop) (b:List Int) (w:World) (e:Ending) (w':World):Prop:=∃ a m c,e = .returned (.slice a m c)∧RdAt .u8 w' a m c b∧(∀ x,a=some x→0 < m→¬ No x.block)∧Below w.heap.size w w'
section
variable {No:Nat→Prop} {h:McH} {st:Mc} {w:World}
theorem McIn.few {w:World} (i:McIn w No h st) (p:Int):(st.rs p).length≤32:=by
 have h1:=(i.ok.cn p).few
 have h2:=i.ok.cf.regions
 omega
theorem page_any (i:McIn w No h st) (p n:Int) (hp:(Lit.int .i64 p).wf=true) (hn:(Lit.int .i64 n).wf=true) :
  Calls Tryz.prog 83 #[.pointer (some ⟨h.m,0,none⟩),.int .i64 p,.int .i64 n] w (GivesPage No (pgB st.c.page (st.ms p) n) w):=by
 obtain ⟨c4,c6,c7,c8,c9,c10,c11⟩:=i.cells
 obtain ⟨a,m,c,hl,hs,h0⟩:=i.lookP p n hp hn
 have hpg:=i.ok.cf.page
 have hlt:=i.lt
 unfold pgB
 cases hk:kget (st.ms p) n with
 | none=>
  rw [hk] at hl
  obtain ⟨w1,hm,ho,hb⟩:=mkN5 st.c.page (by omega) (by omega) w
  have HO:=Lib.hid ho;have HB:=Lib.hid hb;have HL:=Lib.hid hlt;clear hs h0 hk i hpg hlt ho hb
  go_enter Tryz.func83,Tryz.ntmps83
  go_wp2
  go_ret
  exact ⟨_,_,_,rfl,HO.out.rd,fun x hx h1 hk=>by have:=HO.out.blk x hx h1;have:=HL.out _ hk;omega,HB.out⟩
 | some b=>
  rw [hk] at hl
  obtain ⟨hr,hx⟩:=hs b hk
  have HR:=Lib.hid hr;have HX:=Lib.hid hx;clear hs h0 hk i hpg hlt hr hx
  go_enter Tryz.func83,Tryz.ntmps83
  go_wp2
  go_ret
  exact ⟨_,_,_,rfl,HR.out,HX.out,Below.refl _ _⟩
theorem pids_any (i:McIn w No h st):Calls Tryz.prog 20 #[.pointer (some ⟨h.m,0,none⟩)] w (GivesPids (pidsK st.v st.pr) w):=by
 obtain ⟨c4,c6,c7,c8,c9,c10,c11⟩:=i.cells
 have hs:=i.set
 rw [← i.ok.prI] at hs
 have HC:=Lib.hid (list_any h.sb st.pr st.v w hs i.ok.prL.2)
 clear hs i
 go_enter Tryz.func20,Tryz.ntmps20
 go_wp2_with fail
 refine HC.out.mono ?_
 rintro e w' ⟨v,rfl,ho,hb⟩
 have HO:=Lib.hid ho;have HB:=Lib.hid hb;clear ho hb
 go_wp2
 go_ret
 exact ⟨_,rfl,HO.out,HB.out⟩
theorem regions_any (i:McIn w No h st) (p:Int) (hp:(Lit.int .i64 p).wf=true):Calls Tryz.prog 79 #[.pointer (some ⟨h.m,0,none⟩),.int .i64 p] w (GivesRgs (st.rs p) w):=by
 obtain ⟨c4,c6,c7,c8,c9,c10,c11⟩:=i.cells
 obtain ⟨a,n,c,hl,hr,_⟩:=i.lookR p hp
 have hn:=i.few p
 have HC:=Lib.hid (cloneR_any a n c _ w hr (by have:=hr.len;omega))
 clear hr i hn
 go_enter Tryz.func79,Tryz.ntmps79
 go_wp2_with fail
 refine HC.out.mono ?_
 rintro e w' ⟨v,rfl,ho,hb⟩
 have HO:=Lib.hid ho;have HB:=Lib.hid hb;clear ho hb
 go_wp2
 go_ret
 exact ⟨_,rfl,HO.out,HB.out⟩
theorem pageof_no (i:McIn w No h st) (p n:Int) (hp:(Lit.int .i64 p).wf=true) (hf:findB (st.rs p) n=false) :
  Calls Tryz.prog 45 #[.pointer (some ⟨h.m,0,none⟩),.int .i64 p,.int .i64 n] w fun e w'=>e = .returned (.tuple #[.slice none 0 0,.bool false])∧Below w.heap.size w w':=by
 obtain ⟨c4,c6,c7,c8,c9,c10,c11⟩:=i.cells
 obtain ⟨a,k,c,hl,hr,_⟩:=i.lookR p hp
 have hn:=i.few p
 have HC:=find_any a k c _ n w hr (by have:=hr.len;omega)
 rw [hf] at HC
 obtain ⟨r,hrr⟩:∃ r,findR (st.rs p) n=r:=⟨_,rfl⟩
 rw [hrr] at HC
 obtain ⟨r0,r1,r2⟩:=r
 have HC:=Lib.hid HC;clear hr i hn hrr hf
 go_enter Tryz.func45,Tryz.ntmps45
 go_wp2_with fail
 refine HC.out.mono ?_
 rintro e w' ⟨rfl,hb⟩
 have HB:=Lib.hid hb;clear hb
 unfold Rg.val
 go_wp2
 go_ret2
 exact ⟨rfl,Below.more HB.out _⟩
theorem pageof_yes (i:McIn w No h st) (p n:Int) (hp:(Lit.int .i64 p).wf=true) (hnw:(Lit.int .i64 n).wf=true) (hf:findB (st.rs p) n=true) :
  Calls Tryz.prog 45 #[.pointer (some ⟨h.m,0,none⟩),.int .i64 p,.int .i64 n] w fun e w'=>∃ v,e = .returned (.tuple #[v,.bool true])∧Owns .u8 5 w' w.heap.size v (pgB st.c.page (st.ms p) n)∧Below w.heap.size w w':=by
 obtain ⟨c4,c6,c7,c8,c9,c10,c11⟩:=i.cells
 obtain ⟨a,k,c,hl,hr,_⟩:=i.lookR p hp
 have hn:=i.few p
 have HC:=find_any a k c _ n w hr (by have:=hr.len;omega)
 rw [hf] at HC
 obtain ⟨r,hrr⟩:∃ r,findR (st.rs p) n=r:=⟨_,rfl⟩
 rw [hrr] at HC
 obtain ⟨r0,r1,r2⟩:=r
 have HC:=Lib.hid HC;have HI:=Lib.hid i;have HPG:=Lib.hid i.ok.cf.page
 have HPB:=Lib.hid (pgOk_B i.ok.cf.page.1 (fun x hx=>(i.ok.pg p x hx).1) n).1
 clear hr i hn hrr hf
 go_enter Tryz.func45,Tryz.ntmps45
 go_wp2_with fail
 refine HC.out.mono ?_
 rintro e w' ⟨rfl,hb⟩
 have HB:=Lib.hid (Below.more hb (.cells #[.int .i64 r0,.int .i64 r1,.int .i64 r2] 110))
 clear hb
 unfold Rg.val
 go_wp2_with fail
 refine (page_any (HI.out.below HB.out) p n hp hnw).mono ?_
 rintro e w2 ⟨a2,m2,c2,rfl,hr2,_,hb2⟩
 have HB2:=Lib.hid (Below.call HB.out hb2)
 have hm2:m2≤1000000000:=by have:=hr2.len;have:=HPB.out;have:=HPG.out;omega
 have HC2:=Lib.hid (clone_any a2 m2 c2 _ w2 hr2 hm2)
 clear hr2 hb2 hm2;go_wp2_with fail
 refine HC2.out.mono ?_
 rintro e w3 ⟨v,rfl,ho,hb3⟩
 have HO:=Lib.hid (ho.mono HB2.out.size)
 have HB3:=Lib.hid (Below.call HB2.out hb3)
 clear ho hb3
 go_wp2
 go_ret2
 exact ⟨_,rfl,HO.out,HB3.out⟩
end
set_option linter.unusedSimpArgs false
section
variable {No:Nat→Prop} {h:McH} {st:Mc} {w:World}
set_option maxHeartbeats 2000000 in
theorem bytes_any (i:McIn w No h st) (p k n ways:Int) (hp:(Lit.int .i64 p).wf=true) (hk:(Lit.int .i64 k).wf=true) (hn:(Lit.int .i64 n).wf=true) :
  Calls Tryz.prog 64 #[.pointer (some ⟨h.m,0,none⟩),.int .i64 p,.int .i64 k,.int .i64 n,.int .i64 ways] w fun e w'=>e = .returned (.int .i64 (bytesE st.c (st.rs p) k n ways))∧Below w.heap.size w w':=by
 obtain ⟨c4,c6,c7,c8,c9,c10,c11⟩:=i.cells
 have hpg:=i.ok.cf.page
 have hps:=i.ok.cf.pages
 have ha1:st.c.pages * st.c.page≤65536 * 4096:=Int.mul_le_mul hps.2 hpg.2 (by omega) (by omega)
 have ha0:0≤st.c.pages * st.c.page:=Int.mul_nonneg (by omega) (by omega)
 have hk1:=wf_i64_bd hk
 have hn1:=wf_i64_bd hn
 obtain ⟨PG,hPG⟩:∃ x,st.c.page=x:=⟨_,rfl⟩
 obtain ⟨PS,hPS⟩:∃ x,st.c.pages=x:=⟨_,rfl⟩
 unfold bytesE
 rw [hPG] at c4 hpg ha1 ha0 ⊢;rw [hPS] at c8 hps ha1 ha0 ⊢
 obtain ⟨A,hA⟩:∃ x,PS * PG=x:=⟨_,rfl⟩
 rw [hA] at ha1 ha0 ⊢
 have hwA:IntKind.i64.wrap A=A:=by rw [IntKind.wrap_i64];omega
 have HI:=Lib.hid i
 have QB:=Lib.hid (fun q=>belowNp (Below.refl w.heap.size w) q)
 have QB2:=Lib.hid (fun q q'=>belowNp (belowNp (Below.refl w.heap.size w) q) q')
 obtain ⟨a,rn,c,hl,hr,_⟩:=i.lookRB p hp
 have hrn:rn≤1000:=by have:=hr.len;have:=i.few p;omega
 have HL:=Lib.hid hl;have HR:=Lib.hid hr;clear hl hr;clear i
 by_cases e0:n < 0
 ·rw [if_pos (by omega)]
  have d0:decide (n < 0)=true:=decide_eq_true e0
  trace_state
  go_enter Tryz.func64,Tryz.ntmps64
  go_wp2
  go_quiet (fail)
  go_wp2
  go_ret
  exact ⟨rfl,QB.out _⟩
 have d0:decide (n < 0)=false:=decide_eq_false e0
 by_cases e1:1048576 < n
 ·rw [if_pos (by omega)]
  have d1:decide (1048576 < n)=true:=decide_eq_true e1
  trace_state
  go_enter Tryz.func64,Tryz.ntmps64
  go_wp2
  go_quiet (fail)
  go_wp2
  go_ret
  exact ⟨rfl,QB.out _⟩
 have d1:decide (1048576 < n)=false:=decide_eq_false e1
 by_cases e2:k < 0
 ·rw [if_pos (by omega)]
  have d2:decide (k < 0)=true:=decide_eq_true e2
  trace_state
  go_enter Tryz.func64,Tryz.ntmps64
  go_wp2
  go_quiet (fail)
  go_wp2
  go_ret
  exact ⟨rfl,QB.out _⟩
 have d2:decide (k < 0)=false:=decide_eq_false e2
 by_cases e3:A < k
 ·rw [if_pos (by omega)]
  have d3:decide (A < k)=true:=decide_eq_true e3
  trace_state
  go_enter Tryz.func64,Tryz.ntmps64
  go_wp2
  go_quiet (fail)
  go_wp2
  go_ret
  exact ⟨rfl,QB.out _⟩
 have d3:decide (A < k)=false:=decide_eq_false e3
 by_cases e4:A - k < n
 ·rw [if_pos (by omega)]
  have d4:decide (A - k < n)=true:=decide_eq_true e4
  trace_state
  go_enter Tryz.func64,Tryz.ntmps64
  go_wp2
  go_quiet (fail)
  go_wp2
  go_ret
  exact ⟨rfl,QB.out _⟩
 have d4:decide (A - k < n)=false:=decide_eq_false e4
 rw [if_neg (by omega)]
 by_cases e5:0 < n
 ·have d5:decide (0 < n)=true:=decide_eq_true e5
  have hs1:IntKind.i64.wrap (k+n)=k+n:=by rw [IntKind.wrap_i64];omega
  have hs2:IntKind.i64.wrap (k+n - 1)=k+n - 1:=by rw [IntKind.wrap_i64];omega
  have hq1:k.tdiv PG=k / PG:=Int.tdiv_eq_ediv_of_nonneg (by omega)
  have hq2:(k+n - 1).tdiv PG=(k+n - 1) / PG:=Int.tdiv_eq_ediv_of_nonneg (by omega)
  have hb1:0≤k / PG∧k / PG≤k:=⟨Int.ediv_nonneg (by omega) (by omega),Int.ediv_le_self _ (by omega)⟩
  have hb2:0≤(k+n - 1) / PG∧(k+n - 1) / PG≤k+n - 1:=⟨Int.ediv_nonneg (by omega) (by omega),Int.ediv_le_self _ (by omega)⟩
  have hs3:IntKind.i64.wrap (k / PG)=k / PG:=by rw [IntKind.wrap_i64];omega
  have hs4:IntKind.i64.wrap ((k+n - 1) / PG)=(k+n - 1) / PG:=by rw [IntKind.wrap_i64];omega
  have hs5:IntKind.i64.wrap ((k+n - 1) / PG+1)=(k+n - 1) / PG+1:=by rw [IntKind.wrap_i64];omega
  have hz:¬ PG=0:=by omega
  have HB:=Lib.hid hb1;clear hb1 hb2
  cases hB:allL (st.rs p) (k / PG) ((k+n - 1) / PG+1) (okW ways) with
  | false=>
   rw [if_pos ⟨e5,rfl⟩]
   go_enter Tryz.func64,Tryz.ntmps64
   go_wp2
   go_quiet (fail);go_wp2_with fail
   refine' reg_free (G:=Kept) (pickF [eqV _,eqV _,eqV _,eqV _,eqV _,eqV _,eqV _,eqV _,eqV _,eqV _,eqV _,eqV _,eqV _,eqV _,eqV _,eqV _,eqV _,eqV _,eqV _,eqV _,eqV _,eqV _,eqV _,eqV _,eqV _,eqV _,eqV _,eqV _,eqV _,eqV _,eqV _,eqV _]) [47,48,49,50,51,52,53,54,55,56,57,58,59,60,61,62,63,64,65,66,67,68,69,70,71,72,73,74,75,76,77,46] [[],[0],[1],[2],[2,3],[2,4],[2,5],[2],[2,6,7],[2],[2],[2,10],[2,11],[2,12],[2,13],[2,9,14],[2],[2],[2,16,17],[2,18],[2],[2,20],[2,21],[2,22],[2,23],[2,19,24],[2,25],[2],[2,8,15,26,27],[2,28],[2,29],[30]] [0,1,2,3,4,5,6,7,8,9,10,11,12,13,14,15,16,17,18,19,20,21,22,23,24,25,26,27,28,29,30,31] (by kernel_rfl) Kept.refl Kept.trans (pick_stays ⟨eS _,eS _,eS _,eS _,eS _,eS _,eS _,eS _,eS _,eS _,eS _,eS _,eS _,eS _,eS _,eS _,eS _,eS _,eS _,eS _,eS _,eS _,eS _,eS _,eS _,eS _,eS _,eS _,eS _,eS _,eS _,eS _,trivial⟩) 78 rfl (by kernel_rfl) (by kernel_rfl) rfl rfl ?r1obl ?r1fin
   case r1obl=>
    refine ⟨?r1o0,?r1o1,?r1o2,?r1o3,?r1o4,?r1o5,?r1o6,?r1o7,?r1o8,?r1o9,?r1o10,?r1o11,?r1o12,?r1o13,?r1o14,?r1o15,?r1o16,?r1o17,?r1o18,?r1o19,?r1o20,?r1o21,?r1o22,?r1o23,?r1o24,?r1o25,?r1o26,?r1o27,?r1o28,?r1o29,?r1o30,?r1o31,trivial⟩
    case r1o0=>
     intro w1 hG;refine t1o (by rfl) ?_;intro K hK;go_simp;refine hK _ _ ⟨rfl,Kept.refl _,?_⟩;show _=_;simp only [gv1];rfl
    case r1o1 | r1o2 | r1o3=>
     intro w1 hG;intro va ha;change _=_ at ha;subst ha;refine t1o (by rfl) ?_;intro K hK;simp only [gv2];go_simp;refine hK _ _ ⟨rfl,Kept.refl _,?_⟩;show _=_;simp only [gv1];rfl
    case r1o4 | r1o5=>
     intro w1 hG;intro va ha;change _=_ at ha;subst ha;intro vb hb;change _=_ at hb;subst hb;refine t1o (by rfl) ?_;intro K hK;simp only [gv2];go_simp;refine hK _ _ ⟨rfl,Kept.refl _,?_⟩;show _=_;simp only [gv1];rfl
    case r1o6=>
     intro w1 hG;intro v2 h2;change _=_ at h2;subst h2;intro v5 h5;change _=_ at h5;subst h5;refine t1o (by rfl) ?_;intro K hK;simp only [gv2]
     have hGB:=kept_n hG
     have hc:=cel hGB c10
     go_simp;refine hK _ _ ⟨rfl,Kept.refl _,?_⟩;show _=_;simp only [gv1];rfl
    case r1o7=>
     intro w1 hG;intro va ha;change _=_ at ha;subst ha;refine t1o (by rfl) ?_;intro K hK;simp only [gv2];go_simp;refine hK _ _ ⟨rfl,Kept.refl _,?_⟩;show _=_;simp only [gv1];rfl
    case r1o8=>
     intro w1 hG;intro v2 h2;change _=_ at h2;subst h2;intro v6 h6;change _=_ at h6;subst h6;intro v7 h7;change _=_ at h7;subst h7;refine t1o (by rfl) ?_;intro K hK;simp only [gv2]
     have hGB:=kept_n hG
     have hlk:=HL.out w1 hGB
     go_simp;refine hK _ _ ⟨rfl,Kept.refl _,?_⟩;show _=_;simp only [gv1];rfl
    case r1o9 | r1o10=>
     intro w1 hG;intro va ha;change _=_ at ha;subst ha;refine t1o (by rfl) ?_;intro K hK;simp only [gv2];go_simp;refine hK _ _ ⟨rfl,Kept.refl _,?_⟩;show _=_;simp only [gv1];rfl
    case r1o11 | r1o12 | r1o13=>
     intro w1 hG;intro va ha;change _=_ at ha;subst ha;intro vb hb;change _=_ at hb;subst hb;refine t1o (by rfl) ?_;intro K hK;simp only [gv2];go_simp;refine hK _ _ ⟨rfl,Kept.refl _,?_⟩;show _=_;simp only [gv1];rfl
    case r1o14=>
     intro w1 hG;intro v2 h2;change _=_ at h2;subst h2;intro v13 h13;change _=_ at h13;subst h13;refine t1o (by rfl) ?_;intro K hK;simp only [gv2]
     have hGB:=kept_n hG
     have hc:=cel hGB c4
     go_simp;refine hK _ _ ⟨rfl,Kept.refl _,?_⟩;show _=_;simp only [gv1];rfl
    case r1o15=>
     intro w1 hG;intro va ha;change _=_ at ha;subst ha;intro vb hb;change _=_ at hb;subst hb;intro vc hc;change _=_ at hc;subst hc;refine t1o (by rfl) ?_;intro K hK;simp only [gv2];go_simp;refine hK _ _ ⟨rfl,Kept.refl _,?_⟩;show _=_;simp only [gv1];rfl
    case r1o16 | r1o17=>
     intro w1 hG;intro va ha;change _=_ at ha;subst ha;refine t1o (by rfl) ?_;intro K hK;simp only [gv2];go_simp;refine hK _ _ ⟨rfl,Kept.refl _,?_⟩;show _=_;simp only [gv1];rfl
    case r1o18=>
     intro w1 hG;intro va ha;change _=_ at ha;subst ha;intro vb hb;change _=_ at hb;subst hb;intro vc hc;change _=_ at hc;subst hc;refine t1o (by rfl) ?_;intro K hK;simp only [gv2];go_simp;refine hK _ _ ⟨rfl,Kept.refl _,?_⟩;show _=_;simp only [gv1];rfl
    case r1o19=>
     intro w1 hG;intro va ha;change _=_ at ha;subst ha;intro vb hb;change _=_ at hb;subst hb;refine t1o (by rfl) ?_;intro K hK;simp only [gv2];go_simp;refine hK _ _ ⟨rfl,Kept.refl _,?_⟩;show _=_;simp only [gv1];rfl
    case r1o20=>
     intro w1 hG;intro va ha;change _=_ at ha;subst ha;refine t1o (by rfl) ?_;intro K hK;simp only [gv2];go_simp;refine hK _ _ ⟨rfl,Kept.refl _,?_⟩;show _=_;simp only [gv1];rfl
    case r1o21 | r1o22 | r1o23=>
     intro w1 hG;intro va ha;change _=_ at ha;subst ha;intro vb hb;change _=_ at hb;subst hb;refine t1o (by rfl) ?_;intro K hK;simp only [gv2];go_simp;refine hK _ _ ⟨rfl,Kept.refl _,?_⟩;show _=_;simp only [gv1];rfl
    case r1o24=>
     intro w1 hG;intro v2 h2;change _=_ at h2;subst h2;intro v23 h23;change _=_ at h23;subst h23;refine t1o (by rfl) ?_;intro K hK;simp only [gv2]
     have hGB:=kept_n hG
     have hc:=cel hGB c4
     go_simp;refine hK _ _ ⟨rfl,Kept.refl _,?_⟩;show _=_;simp only [gv1];rfl
    case r1o25=>
     intro w1 hG;intro va ha;change _=_ at ha;subst ha;intro vb hb;change _=_ at hb;subst hb;intro vc hc;change _=_ at hc;subst hc;refine t1o (by rfl) ?_;intro K hK;simp only [gv2];go_simp;refine hK _ _ ⟨rfl,Kept.refl _,?_⟩;show _=_;simp only [gv1];rfl
    case r1o26=>
     intro w1 hG;intro va ha;change _=_ at ha;subst ha;intro vb hb;change _=_ at hb;subst hb;refine t1o (by rfl) ?_;intro K hK;simp only [gv2];go_simp;refine hK _ _ ⟨rfl,Kept.refl _,?_⟩;show _=_;simp only [gv1];rfl
    case r1o27=>
     intro w1 hG;intro va ha;change _=_ at ha;subst ha;refine t1o (by rfl) ?_;intro K hK;simp only [gv2];go_simp;refine hK _ _ ⟨rfl,Kept.refl _,?_⟩;show _=_;simp only [gv1];rfl
    case r1o28=>
     intro w1 hG;intro v2 h2;change _=_ at h2;subst h2;intro v8 h8;change _=_ at h8;subst h8;intro v15 h15;change _=_ at h15;subst h15;intro v26 h26;change _=_ at h26;subst h26;intro v27 h27;change _=_ at h27;subst h27;refine t1o (by rfl) ?_;intro K hK;simp only [gv2];go_simp
     have hall:=all_any a rn c (st.rs p) (k / PG) ((k+n - 1) / PG+1) ways w1 (HR.out.below (kept_n hG)) hrn
     rw [hB] at hall
     refine hall.mono ?_
     rintro e w2 ⟨rfl,hb⟩
     refine hK _ _ ⟨rfl,hb,?_⟩
     show _=_;simp only [gv1];rfl
    case r1o29 | r1o30=>
     intro w1 hG;intro va ha;change _=_ at ha;subst ha;intro vb hb;change _=_ at hb;subst hb;refine t1o (by rfl) ?_;intro K hK;simp only [gv2];go_simp;refine hK _ _ ⟨rfl,Kept.refl _,?_⟩;show _=_;simp only [gv1];rfl
    case r1o31=>
     intro w1 hG;intro va ha;change _=_ at ha;subst ha;refine t1o (by rfl) ?_;intro K hK;simp only [gv2];go_simp;refine hK _ _ ⟨rfl,Kept.refl _,?_⟩;show _=_;simp only [gv1];rfl
   intro w1 hG;intro v0 h0;change _=_ at h0;subst h0;intro v1 h1;change _=_ at h1;subst h1;intro v2 h2;change _=_ at h2;subst h2;intro v3 h3;change _=_ at h3;subst h3;intro v4 h4;change _=_ at h4;subst h4;intro v5 h5;change _=_ at h5;subst h5;intro v6 h6;change _=_ at h6;subst h6;intro v7 h7;change _=_ at h7;subst h7;intro v8 h8;change _=_ at h8;subst h8
   intro v9 h9;change _=_ at h9;subst h9;intro v10 h10;change _=_ at h10;subst h10;intro v11 h11;change _=_ at h11;subst h11;intro v12 h12;change _=_ at h12;subst h12;intro v13 h13;change _=_ at h13;subst h13;intro v14 h14;change _=_ at h14;subst h14;intro v15 h15;change _=_ at h15;subst h15;intro v16 h16;change _=_ at h16;subst h16;intro v17 h17;change _=_ at h17
   subst h17;intro v18 h18;change _=_ at h18;subst h18;intro v19 h19;change _=_ at h19;subst h19;intro v20 h20;change _=_ at h20;subst h20;intro v21 h21;change _=_ at h21;subst h21;intro v22 h22;change _=_ at h22;subst h22;intro v23 h23;change _=_ at h23;subst h23;intro v24 h24;change _=_ at h24;subst h24;intro v25 h25;change _=_ at h25;subst h25;intro v26 h26
   change _=_ at h26;subst h26;intro v27 h27;change _=_ at h27;subst h27;intro v28 h28;change _=_ at h28;subst h28;intro v29 h29;change _=_ at h29;subst h29;intro v30 h30;change _=_ at h30;subst h30;intro v31 h31;change _=_ at h31;subst h31
   simp only [Given,gv2]
   have HG:=Lib.hid (kept_n hG)
   clear hG
   go_wp2
   go_ret
   exact ⟨rfl,HG.out⟩
  | true=>
   rw [if_neg (by simp)]
   go_enter Tryz.func64,Tryz.ntmps64
   go_wp2
   go_quiet (fail);go_wp2_with fail
   refine' reg_free (G:=Kept) (pickF [eqV _,eqV _,eqV _,eqV _,eqV _,eqV _,eqV _,eqV _,eqV _,eqV _,eqV _,eqV _,eqV _,eqV _,eqV _,eqV _,eqV _,eqV _,eqV _,eqV _,eqV _,eqV _,eqV _,eqV _,eqV _,eqV _,eqV _,eqV _,eqV _,eqV _,eqV _,eqV _]) [47,48,49,50,51,52,53,54,55,56,57,58,59,60,61,62,63,64,65,66,67,68,69,70,71,72,73,74,75,76,77,46] [[],[0],[1],[2],[2,3],[2,4],[2,5],[2],[2,6,7],[2],[2],[2,10],[2,11],[2,12],[2,13],[2,9,14],[2],[2],[2,16,17],[2,18],[2],[2,20],[2,21],[2,22],[2,23],[2,19,24],[2,25],[2],[2,8,15,26,27],[2,28],[2,29],[30]] [0,1,2,3,4,5,6,7,8,9,10,11,12,13,14,15,16,17,18,19,20,21,22,23,24,25,26,27,28,29,30,31] (by kernel_rfl) Kept.refl Kept.trans (pick_stays ⟨eS _,eS _,eS _,eS _,eS _,eS _,eS _,eS _,eS _,eS _,eS _,eS _,eS _,eS _,eS _,eS _,eS _,eS _,eS _,eS _,eS _,eS _,eS _,eS _,eS _,eS _,eS _,eS _,eS _,eS _,eS _,eS _,trivial⟩) 78 rfl (by kernel_rfl) (by kernel_rfl) rfl rfl ?r2obl ?r2fin
   case r2obl=>
    refine ⟨?r2o0,?r2o1,?r2o2,?r2o3,?r2o4,?r2o5,?r2o6,?r2o7,?r2o8,?r2o9,?r2o10,?r2o11,?r2o12,?r2o13,?r2o14,?r2o15,?r2o16,?r2o17,?r2o18,?r2o19,?r2o20,?r2o21,?r2o22,?r2o23,?r2o24,?r2o25,?r2o26,?r2o27,?r2o28,?r2o29,?r2o30,?r2o31,trivial⟩
    case r2o0=>
     intro w1 hG;refine t1o (by rfl) ?_;intro K hK;go_simp;refine hK _ _ ⟨rfl,Kept.refl _,?_⟩;show _=_;simp only [gv1];rfl
    case r2o1 | r2o2 | r2o3=>
     intro w1 hG;intro va ha;change _=_ at ha;subst ha;refine t1o (by rfl) ?_;intro K hK;simp only [gv2];go_simp;refine hK _ _ ⟨rfl,Kept.refl _,?_⟩;show _=_;simp only [gv1];rfl
    case r2o4 | r2o5=>
     intro w1 hG;intro va ha;change _=_ at ha;subst ha;intro vb hb;change _=_ at hb;subst hb;refine t1o (by rfl) ?_;intro K hK;simp only [gv2];go_simp;refine hK _ _ ⟨rfl,Kept.refl _,?_⟩;show _=_;simp only [gv1];rfl
    case r2o6=>
     intro w1 hG;intro v2 h2;change _=_ at h2;subst h2;intro v5 h5;change _=_ at h5;subst h5;refine t1o (by rfl) ?_;intro K hK;simp only [gv2]
     have hGB:=kept_n hG
     have hc:=cel hGB c10
     go_simp;refine hK _ _ ⟨rfl,Kept.refl _,?_⟩;show _=_;simp only [gv1];rfl
    case r2o7=>
     intro w1 hG;intro va ha;change _=_ at ha;subst ha;refine t1o (by rfl) ?_;intro K hK;simp only [gv2];go_simp;refine hK _ _ ⟨rfl,Kept.refl _,?_⟩;show _=_;simp only [gv1];rfl
    case r2o8=>
     intro w1 hG;intro v2 h2;change _=_ at h2;subst h2;intro v6 h6;change _=_ at h6;subst h6;intro v7 h7;change _=_ at h7;subst h7;refine t1o (by rfl) ?_;intro K hK;simp only [gv2]
     have hGB:=kept_n hG
     have hlk:=HL.out w1 hGB
     go_simp;refine hK _ _ ⟨rfl,Kept.refl _,?_⟩;show _=_;simp only [gv1];rfl
    case r2o9 | r2o10=>
     intro w1 hG;intro va ha;change _=_ at ha;subst ha;refine t1o (by rfl) ?_;intro K hK;simp only [gv2];go_simp;refine hK _ _ ⟨rfl,Kept.refl _,?_⟩;show _=_;simp only [gv1];rfl
    case r2o11 | r2o12 | r2o13=>
     intro w1 hG;intro va ha;change _=_ at ha;subst ha;intro vb hb;change _=_ at hb;subst hb;refine t1o (by rfl) ?_;intro K hK;simp only [gv2];go_simp;refine hK _ _ ⟨rfl,Kept.refl _,?_⟩;show _=_;simp only [gv1];rfl
    case r2o14=>
     intro w1 hG;intro v2 h2;change _=_ at h2;subst h2;intro v13 h13;change _=_ at h13;subst h13;refine t1o (by rfl) ?_;intro K hK;simp only [gv2]
     have hGB:=kept_n hG
     have hc:=cel hGB c4
     go_simp;refine hK _ _ ⟨rfl,Kept.refl _,?_⟩;show _=_;simp only [gv1];rfl
    case r2o15=>
     intro w1 hG;intro va ha;change _=_ at ha;subst ha;intro vb hb;change _=_ at hb;subst hb;intro vc hc;change _=_ at hc;subst hc;refine t1o (by rfl) ?_;intro K hK;simp only [gv2];go_simp;refine hK _ _ ⟨rfl,Kept.refl _,?_⟩;show _=_;simp only [gv1];rfl
    case r2o16 | r2o17=>
     intro w1 hG;intro va ha;change _=_ at ha;subst ha;refine t1o (by rfl) ?_;intro K hK;simp only [gv2];go_simp;refine hK _ _ ⟨rfl,Kept.refl _,?_⟩;show _=_;simp only [gv1];rfl
    case r2o18=>
     intro w1 hG;intro va ha;change _=_ at ha;subst ha;intro vb hb;change _=_ at hb;subst hb;intro vc hc;change _=_ at hc;subst hc;refine t1o (by rfl) ?_;intro K hK;simp only [gv2];go_simp;refine hK _ _ ⟨rfl,Kept.refl _,?_⟩;show _=_;simp only [gv1];rfl
    case r2o19=>
     intro w1 hG;intro va ha;change _=_ at ha;subst ha;intro vb hb;change _=_ at hb;subst hb;refine t1o (by rfl) ?_;intro K hK;simp only [gv2];go_simp;refine hK _ _ ⟨rfl,Kept.refl _,?_⟩;show _=_;simp only [gv1];rfl
    case r2o20=>
     intro w1 hG;intro va ha;change _=_ at ha;subst ha;refine t1o (by rfl) ?_;intro K hK;simp only [gv2];go_simp;refine hK _ _ ⟨rfl,Kept.refl _,?_⟩;show _=_;simp only [gv1];rfl
    case r2o21 | r2o22 | r2o23=>
     intro w1 hG;intro va ha;change _=_ at ha;subst ha;intro vb hb;change _=_ at hb;subst hb;refine t1o (by rfl) ?_;intro K hK;simp only [gv2];go_simp;refine hK _ _ ⟨rfl,Kept.refl _,?_⟩;show _=_;simp only [gv1];rfl
    case r2o24=>
     intro w1 hG;intro v2 h2;change _=_ at h2;subst h2;intro v23 h23;change _=_ at h23;subst h23;refine t1o (by rfl) ?_;intro K hK;simp only [gv2]
     have hGB:=kept_n hG
     have hc:=cel hGB c4
     go_simp;refine hK _ _ ⟨rfl,Kept.refl _,?_⟩;show _=_;simp only [gv1];rfl
    case r2o25=>
     intro w1 hG;intro va ha;change _=_ at ha;subst ha;intro vb hb;change _=_ at hb;subst hb;intro vc hc;change _=_ at hc;subst hc;refine t1o (by rfl) ?_;intro K hK;simp only [gv2];go_simp;refine hK _ _ ⟨rfl,Kept.refl _,?_⟩;show _=_;simp only [gv1];rfl
    case r2o26=>
     intro w1 hG;intro va ha;change _=_ at ha;subst ha;intro vb hb;change _=_ at hb;subst hb;refine t1o (by rfl) ?_;intro K hK;simp only [gv2];go_simp;refine hK _ _ ⟨rfl,Kept.refl _,?_⟩;show _=_;simp only [gv1];rfl
    case r2o27=>
     intro w1 hG;intro va ha;change _=_ at ha;subst ha;refine t1o (by rfl) ?_;intro K hK;simp only [gv2];go_simp;refine hK _ _ ⟨rfl,Kept.refl _,?_⟩;show _=_;simp only [gv1];rfl
    case r2o28=>
     intro w1 hG;intro v2 h2;change _=_ at h2;subst h2;intro v8 h8;change _=_ at h8;subst h8;intro v15 h15;change _=_ at h15;subst h15;intro v26 h26;change _=_ at h26;subst h26;intro v27 h27;change _=_ at h27;subst h27;refine t1o (by rfl) ?_;intro K hK;simp only [gv2];go_simp
     have hall:=all_any a rn c (st.rs p) (k / PG) ((k+n - 1) / PG+1) ways w1 (HR.out.below (kept_n hG)) hrn
     rw [hB] at hall
     refine hall.mono ?_
     rintro e w2 ⟨rfl,hb⟩
     refine hK _ _ ⟨rfl,hb,?_⟩
     show _=_;simp only [gv1];rfl
    case r2o29 | r2o30=>
     intro w1 hG;intro va ha;change _=_ at ha;subst ha;intro vb hb;change _=_ at hb;subst hb;refine t1o (by rfl) ?_;intro K hK;simp only [gv2];go_simp;refine hK _ _ ⟨rfl,Kept.refl _,?_⟩;show _=_;simp only [gv1];rfl
    case r2o31=>
     intro w1 hG;intro va ha;change _=_ at ha;subst ha;refine t1o (by rfl) ?_;intro K hK;simp only [gv2];go_simp;refine hK _ _ ⟨rfl,Kept.refl _,?_⟩;show _=_;simp only [gv1];rfl
   intro w1 hG;intro v0 h0;change _=_ at h0;subst h0;intro v1 h1;change _=_ at h1;subst h1;intro v2 h2;change _=_ at h2;subst h2;intro v3 h3;change _=_ at h3;subst h3;intro v4 h4;change _=_ at h4;subst h4;intro v5 h5;change _=_ at h5;subst h5;intro v6 h6;change _=_ at h6;subst h6;intro v7 h7;change _=_ at h7;subst h7;intro v8 h8;change _=_ at h8;subst h8
   intro v9 h9;change _=_ at h9;subst h9;intro v10 h10;change _=_ at h10;subst h10;intro v11 h11;change _=_ at h11;subst h11;intro v12 h12;change _=_ at h12;subst h12;intro v13 h13;change _=_ at h13;subst h13;intro v14 h14;change _=_ at h14;subst h14;intro v15 h15;change _=_ at h15;subst h15;intro v16 h16;change _=_ at h16;subst h16;intro v17 h17;change _=_ at h17
   subst h17;intro v18 h18;change _=_ at h18;subst h18;intro v19 h19;change _=_ at h19;subst h19;intro v20 h20;change _=_ at h20;subst h20;intro v21 h21;change _=_ at h21;subst h21;intro v22 h22;change _=_ at h22;subst h22;intro v23 h23;change _=_ at h23;subst h23;intro v24 h24;change _=_ at h24;subst h24;intro v25 h25;change _=_ at h25;subst h25;intro v26 h26
   change _=_ at h26;subst h26;intro v27 h27;change _=_ at h27;subst h27;intro v28 h28;change _=_ at h28;subst h28;intro v29 h29;change _=_ at h29;subst h29;intro v30 h30;change _=_ at h30;subst h30;intro v31 h31;change _=_ at h31;subst h31
   simp only [Given,gv2]
   have HG:=Lib.hid (kept_n hG)
   clear hG
   go_wp2
   go_ret
   exact ⟨rfl,HG.out⟩
 ·have d5:decide (0 < n)=false:=decide_eq_false e5
  rw [if_neg (by omega)]
  go_enter Tryz.func64,Tryz.ntmps64
  go_wp2
  go_quiet (fail)
  go_wp2
  go_quiet (fail)
  go_wp2
  go_ret
  exact ⟨rfl,QB2.out _ _⟩
end
end Go.Proofs.YtoepnbfifjgpfaaGreat
