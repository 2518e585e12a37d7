/- The document's machine: a byte stored (store). -/
import Derived.Test.YtoepnbfifjgpfaaGreatMu0
import Derived.Test.YtoepnbfifjgpfaaGreatMp2
import Derived.Test.YtoepnbfifjgpfaaGreatMp5
import Derived.Test.YtoepnbfifjgpfaaGreatMu16
import Derived.Great.Walk
import Derived.WalkKit
import Derived.ProofKit
import Derived.BigQuiet
import Derived.Deep.QuietTactic
import Derived.Lib.Hide
import Derived.RegionTactic
namespace Go.Proofs.YtoepnbfifjgpfaaGreat
open Go.RowKit
set_option linter.unusedSimpArgs false
theorem grown_cell (w:World) (h i:Nat) (x:Value):w.grownBy (w.setCell ⟨h,i,none⟩ x) (some h):=
 ⟨rfl,rfl,rfl,by simp,fun k _ hk=>heap_setCell_other w ⟨h,i,none⟩ k x (fun e=>hk (by simp [e]))⟩
set_option maxHeartbeats 2000000 in
set_option maxRecDepth 100000 in
theorem rstore_any {w:World} {No:Nat→Prop} {H:PrH} {R:List Rg} {LL:List (Int × List Int)} {PG:Int} (mb:Nat) (c4:w.cell? ⟨mb,4,none⟩=some (.int .i64 PG)) (hnm:¬ No mb) (hlt:∀ j,No j→j < w.heap.size) (p:PrIn w No H R LL) (hs:SrtP LL) (hl:LL.length≤100000) (hpgs:∀ x ∈ LL,PgOk PG x.2) (hpg:16≤PG∧PG≤4096) (k x:Int) (hk:0≤k∧k≤1000000000) (hx:(Lit.int .u8 x).wf=true) :
  Calls Tryz.prog 32 #[.pointer (some ⟨mb,0,none⟩),.pointer (some ⟨H.b,0,none⟩),.int .i64 k,.int .u8 x] w fun e w'=>e = .returned (.tuple #[])∧∃ H':PrH,PrIn w' (fun j=>No j∨H'.own (stOne PG LL k x) j) H' R (stOne PG LL k x)∧H'.b=H.b∧Tn (H.own LL) w w'∧∀ j,H'.own (stOne PG LL k x) j→H.own LL j∨w.heap.size≤j:=by
 have HPP:=Lib.hid p;have HPGS:=Lib.hid hpgs;have HSS:=Lib.hid hs;have HFW:=Lib.hid hl;have HX:=Lib.hid hx;have HNM:=Lib.hid hnm;have HLT:=Lib.hid hlt;clear p hpgs hs hl hx hnm hlt
 have hz:¬ PG=0:=by omega
 have hq1:k.tdiv PG=k / PG:=Int.tdiv_eq_ediv_of_nonneg (by omega)
 have hmr:0≤k % PG∧k % PG < PG:=⟨Int.emod_nonneg _ (by omega),Int.emod_lt_of_pos _ (by omega)⟩
 have hn0:0≤k / PG:=Int.ediv_nonneg hk.1 (by omega)
 have hn1:k / PG≤1000000000:=Int.le_trans (Int.ediv_le_self _ hk.1) hk.2
 obtain ⟨hk0,hk1⟩:=hk
 unfold stOne
 obtain ⟨N,hN⟩:∃ x,k / PG=x:=⟨_,rfl⟩
 rw [hN] at hn0 hn1
 obtain ⟨RR,hR⟩:=Int.eq_ofNat_of_zero_le hmr.1
 have hm1:k.tmod PG=(RR:Int):=by rw [Int.tmod_eq_emod_of_nonneg (by omega),hR]
 rw [hN] at hq1 ⊢;rw [hR] at hmr ⊢;rw [show ((RR:Nat):Int).toNat=RR from rfl]
 have HCF:=Lib.hid (find18_any HPP.out HSS.out (by have:=HFW.out;omega) N)
 obtain ⟨PN,hPN⟩:∃ x,pos LL N=x:=⟨_,rfl⟩
 rw [hPN] at HCF;have HPN:=Lib.hid hPN
 obtain ⟨OK,hOK⟩:∃ x,kget LL N=x:=⟨_,rfl⟩
 rw [hOK] at HCF;have HOK:=Lib.hid hOK
 have hrb:(RR:Int) < PG:=hmr.2
 clear hN hR hPN hOK hmr
 go_enter Tryz.func32,Tryz.ntmps32
 go_wp2_with fail
 refine HCF.out.mono ?_
 rintro e w1 ⟨rfl,hb1⟩
 have HB1:=Lib.hid hb1
 have HP1:=Lib.hid (HPP.out.tn (Tn.of (Q:=fun _=>False) hb1) (fun _ h=>h.elim))
 replace c4:=cel hb1 c4;clear hb1 HCF
 cases OK with
 | none=>
  have hpb:pgB PG LL N=zeroP PG:=by unfold pgB;rw [HOK.out];rfl
  have hple:=pos_le LL N
  rw [HPN.out] at hple
  obtain ⟨ra,rn,rc,la,lc,_,z1,_,h3⟩:=HP1.out.cell
  have hNLb:=HFW.out
  obtain ⟨NL,hNL⟩:∃ y,LL.length=y:=⟨_,rfl⟩
  obtain ⟨NP,hNP⟩:∃ y,PG.toNat=y:=⟨_,rfl⟩
  have HMK:Hid (∀ w5:World,∃ w6,(Instr.makeSlice 37 (.int .i64 PG) (.int .i64 PG)).run Tryz.prog w5 = .ok (.slice (some ⟨w5.heap.size,0,none⟩) NP NP) w6∧Owns .u8 5 w6 w5.heap.size (.slice (some ⟨w5.heap.size,0,none⟩) NP NP) (zeroP PG)∧Below w5.heap.size w5 w6):=fun w5=>by have:=mkN5 PG (by omega) (by omega) w5;rw [hNP] at this;exact this
  have HZL:Hid ((zeroP PG).length=NP):=by show _=_;rw [← hNP];unfold zeroP;simp
  have HPB0:=Lib.hid hpb;rw [hNL] at z1 h3 hple hNLb
  have hcap:=h3.1.cap
  have htc:PN≤lc:=by omega
  have htci:(PN:Int)≤(lc:Int):=by omega
  have hNP0:0 < NP:=by omega
  have HNL:=Lib.hid hNL;have HNP0:=Lib.hid hNP0;have HNP:=Lib.hid hNP;have HZ1:=Lib.hid z1;have HL3:=Lib.hid h3;have HC4:=Lib.hid c4
  obtain ⟨wB,hwB⟩:∃ y:World,y=w1:=⟨_,rfl⟩
  subst hwB;clear z1 c4 h3 hpb hNL hNP hNP0;go_wp2_with fail
  refine' reg_kill [(17,0),(17,7),(17,14),(17,15),(17,16)] [(fun v w5=>∃ g,v=Value.slice (some ⟨g,0,none⟩) 0 0),eqV _,eqV _,eqV _,eqV _,eqV _,eqV _,(fun v w5=>OwnsS PgE.cells 2 84 w5 wB.heap.size v (List.take PN (prL H LL))),eqV _,eqV _,eqV _,eqV _,eqV _,eqV _,(fun v w5=>∃ g,v=Value.slice (some ⟨g,0,none⟩) NP NP∧wB.heap.size≤g∧Owns .u8 5 w5 wB.heap.size (.slice (some ⟨g,0,none⟩) NP NP) (zeroP PG)),(fun v w5=>∃ g,v=Value.agg #[.int .i64 N,.slice (some ⟨g,0,none⟩) NP NP]∧wB.heap.size≤g∧Owns .u8 5 w5 wB.heap.size (.slice (some ⟨g,0,none⟩) NP NP) (zeroP PG)),(fun v w5=>∃ s g,v=Value.slice (some ⟨s,0,none⟩) 1 1∧w5.heap[s]?=some (.cells #[.int .i64 N,.slice (some ⟨g,0,none⟩) NP NP] 84 (0,0))∧wB.heap.size≤g∧Owns .u8 5 w5 wB.heap.size (.slice (some ⟨g,0,none⟩) NP NP) (zeroP PG)),(fun v w5=>∃ g,OwnsS PgE.cells 2 84 w5 wB.heap.size v ((List.take PN (prL H LL)) ++ [⟨N,g,NP,NP⟩])∧wB.heap.size≤g∧Owns .u8 5 w5 wB.heap.size (.slice (some ⟨g,0,none⟩) NP NP) (zeroP PG)),(fun v w5=>∃ g,OwnsS PgE.cells 2 84 w5 wB.heap.size v ((List.take PN (prL H LL)) ++ [⟨N,g,NP,NP⟩])∧wB.heap.size≤g∧Owns .u8 5 w5 wB.heap.size (.slice (some ⟨g,0,none⟩) NP NP) (zeroP PG))] [(17,fun _ w6=>Below wB.heap.size wB w6)] [(4,fun w5=>Below wB.heap.size wB w5),(7,fun w5=>Below wB.heap.size wB w5),(13,fun w5=>Below wB.heap.size wB w5),(14,fun w5=>Below wB.heap.size wB w5),(16,fun w5=>Below wB.heap.size wB w5),(17,fun w5=>Below wB.heap.size wB w5),(19,fun w5=>Below wB.heap.size wB w5)] [27,28,29,30,31,32,33,34,35,36,37,38,39,40,41,42,43,44,11] [[],[],[1],[2],[3],[],[4,5],[0,6],[],[],[9],[10],[11],[12],[13],[8,14],[15],[7,16],[17]] [0,1,2,3,4,5,6,7,8,9,10,11,12,13,14,15,16,17,18] 19 (by kernel_rfl) (by kernel_rfl) ⟨fun _ _ _ p _=>p,eS _,eS _,eS _,eS _,eS _,eS _,fun _ _ _ p b=>OwnsS.below p b,eS _,eS _,eS _,eS _,eS _,eS _,fun _ _ _ p b=>by obtain ⟨g,e,h1,h2⟩:=p;exact ⟨g,e,h1,h2.below b⟩,fun _ _ _ p b=>by obtain ⟨g,e,h1,h2⟩:=p;exact ⟨g,e,h1,h2.below b⟩,fun _ _ _ p b=>by obtain ⟨s,g,e,h0,h1,h2⟩:=p;exact ⟨s,g,e,row_keep h0 b,h1,h2.below b⟩,fun _ _ _ p b=>by obtain ⟨g,e,h1,h2⟩:=p;exact ⟨g,e.below b,h1,h2.below b⟩,fun _ _ _ p b=>by obtain ⟨g,e,h1,h2⟩:=p;exact ⟨g,e.below b,h1,h2.below b⟩,trivial⟩ ⟨⟨.inr (.inr (.inr (by kernel_rfl))),.inl (eS _),.inl (eS _),.inl (eS _),.inl (eS _),.inl (eS _),.inl (eS _),.inr (.inr (.inr (by kernel_rfl))),.inl (eS _),.inl (eS _),.inl (eS _),.inl (eS _),.inl (eS _),.inl (eS _),.inr (.inr (.inr (by kernel_rfl))),.inr (.inr (.inr (by kernel_rfl))),.inr (.inr (.inr (by kernel_rfl))),.inr (.inr (.inl rfl)),.inr (.inl (by kernel_rfl)),trivial⟩,trivial⟩ ⟨fun _ _ p b=>p.trans (b.mono p.size),fun _ _ p b=>p.trans (b.mono p.size),fun _ _ p b=>p.trans (b.mono p.size),fun _ _ p b=>p.trans (b.mono p.size),fun _ _ p b=>p.trans (b.mono p.size),fun _ _ p b=>p.trans (b.mono p.size),fun _ _ p b=>p.trans (b.mono p.size),trivial⟩ ⟨⟨.inr (.inl (by kernel_rfl)),.inr (.inl (by kernel_rfl)),.inr (.inl (by kernel_rfl)),.inr (.inl (by kernel_rfl)),.inr (.inl (by kernel_rfl)),.inr (.inr rfl),.inl (fun _ _ _ g=>g),trivial⟩,trivial⟩ ⟨(Below.refl wB.heap.size wB).drew,(Below.refl wB.heap.size wB).drew,(Below.refl wB.heap.size wB).drew,(Below.refl wB.heap.size wB).drew,(Below.refl wB.heap.size wB).drew,(Below.refl wB.heap.size wB).drew,(Below.refl wB.heap.size wB).drew,trivial⟩ 73 rfl (by kernel_rfl) (by kernel_rfl) rfl rfl 19 rfl ?q1obl ?q1fin
  case q1obl=>
   refine ⟨?q1o0,?q1o1,?q1o2,?q1o3,?q1o4,?q1o5,?q1o6,?q1o7,?q1o8,?q1o9,?q1o10,?q1o11,?q1o12,?q1o13,?q1o14,?q1o15,?q1o16,?q1o17,?q1o18,trivial⟩
   case q1o0=>
    intro w1 hI;refine t2o (by rfl) ?_;intro K hK;go_simp
    refine hK _ _ ⟨rfl,below_a _ _,?_⟩
    show ∃ g,_=Value.slice (some ⟨g,0,none⟩) 0 0
    simp only [gv1]
    exact ⟨_,rfl⟩
   case q1o1 | q1o5 | q1o8 | q1o9=>
    intro w1 hI;refine t2o (by rfl) ?_;intro K hK;go_simp;refine hK _ _ ⟨rfl,Kept.refl _,?_⟩;show _=_;simp only [gv1];rfl
   case q1o2 | q1o3=>
    intro w1 hI;intro va ha;change _=_ at ha;subst va;refine t2o (by rfl) ?_;intro K hK;simp only [gv2];go_simp;refine hK _ _ ⟨rfl,Kept.refl _,?_⟩;show _=_;simp only [gv1];rfl
   case q1o4=>
    intro w1 hI
    replace hI:(fun w5=>Below wB.heap.size wB w5) w1:=hI
    intro v3 h3;change _=_ at h3;subst v3;refine t2o (by rfl) ?_;intro K hK;simp only [gv2]
    have hc:=cel hI HZ1.out
    go_simp;refine hK _ _ ⟨rfl,Kept.refl _,?_⟩;show _=_;simp only [gv1];rfl
   case q1o6=>
    intro w1 hI;intro va ha;change _=_ at ha;subst va;intro vb hb;change _=_ at hb;subst vb;refine t2o (by rfl) ?_;intro K hK;simp only [gv2];go_simp;refine hK _ _ ⟨rfl,Kept.refl _,?_⟩;show _=_;simp only [gv1];rfl
   case q1o7=>
    intro w1 hI
    replace hI:(fun w5=>Below wB.heap.size wB w5) w1:=hI
    intro v0 h0
    obtain ⟨g0,rfl⟩:=h0
    intro v6 h6;change _=_ at h6;subst v6;refine t2o (by rfl) ?_;intro K hK;simp only [gv2]
    refine wp_appS_all pgEC pgT pgEI rfl (by decide) 34 rfl (.tmp 27) (.tmp 33) rfl wB.heap.size (.slice (some ⟨g0,0,none⟩) 0 0) [] rfl (OwnsS.empty _ _ _ _ _ _ _) la PN lc (List.take PN (prL H LL)) rfl (RdS.front (HL3.out.1.below hI) PN hple) (by simp <;> omega) hI.size ?_
    intro v9 w9 ho9 hg9
    refine hK _ _ ⟨rfl,hg9.fromNone,?_⟩
    show OwnsS _ _ _ _ _ _ _
    simp only [gv1]
    exact ho9
   case q1o10 | q1o11 | q1o12=>
    intro w1 hI;intro va ha;change _=_ at ha;subst va;refine t2o (by rfl) ?_;intro K hK;simp only [gv2];go_simp;refine hK _ _ ⟨rfl,Kept.refl _,?_⟩;show _=_;simp only [gv1];rfl
   case q1o13=>
    intro w1 hI
    replace hI:(fun w5=>Below wB.heap.size wB w5) w1:=hI
    intro v12 h12;change _=_ at h12;subst v12;refine t2o (by rfl) ?_;intro K hK;simp only [gv2]
    have hc:=cel hI HC4.out
    go_simp;refine hK _ _ ⟨rfl,Kept.refl _,?_⟩;show _=_;simp only [gv1];rfl
   case q1o14=>
    intro w1 hI
    replace hI:(fun w5=>Below wB.heap.size wB w5) w1:=hI
    intro v13 h13;change _=_ at h13;subst v13;refine t2o (by rfl) ?_;intro K hK;simp only [gv2]
    obtain ⟨w9,hmk,ho,hb⟩:=HMK.out w1
    go_simp
    refine hK _ _ ⟨rfl,hb,?_⟩
    exact ⟨_,rfl,hI.size,ho.mono hI.size⟩
   case q1o15=>
    intro w1 hI;intro v8 h8;change _=_ at h8;subst v8;intro v14 h14
    obtain ⟨g14,rfl,l14,p14⟩:=h14
    refine t2o (by rfl) ?_;intro K hK;simp only [gv2];go_simp;refine hK _ _ ⟨rfl,Kept.refl _,?_⟩
    exact ⟨g14,rfl,l14,p14⟩
   case q1o16=>
    intro w1 hI
    replace hI:(fun w5=>Below wB.heap.size wB w5) w1:=hI
    intro v15 h15
    obtain ⟨g15,rfl,l15,p15⟩:=h15
    refine t2o (by rfl) ?_;intro K hK;simp only [gv2];go_simp
    refine hK _ _ ⟨rfl,below_a _ _,?_⟩
    exact ⟨_,g15,rfl,heap_alloc_new _ _,l15,p15.below (below_a _ _)⟩
   case q1o17=>
    intro w1 hI
    replace hI:(fun w5=>Below wB.heap.size wB w5) w1:=hI
    intro v7 h7;intro v16 h16
    obtain ⟨s16,g16,rfl,r16,l16,p16⟩:=h16
    refine t2o (by rfl) ?_;intro K hK;simp only [gv2]
    refine wp_appS_one pgEC pgT pgEI rfl (by decide) 44 rfl (.tmp 34) (.tmp 43) rfl wB.heap.size v7 _ rfl h7 s16 1 ⟨N,g16,NP,NP⟩ rfl r16 (by rw [List.length_take,prL_len];have:=HFW.out;omega) hI.size ?_
    intro v9 w9 ho9 hg9
    have hne:∀ y,room v7=some y→y ≠ g16:=fun y hy=>by
     obtain ⟨_,cur,hh⟩:=h7.kind y hy
     obtain ⟨c2,h2⟩:=p16.kind HNP0.out
     exact kinds_ne hh h2 pg_kinds
    refine hK _ _ ⟨rfl,hI.trans (hg9.below hI.size (fun y e=>(h7.at_base y e).1)),?_⟩
    show ∃ g,OwnsS _ _ _ _ _ _ _∧_
    simp only [gv1]
    refine ⟨g16,ho9,l16,p16.grown hg9.1 (fun y hy e=>?_)⟩
    have h1:=room_some hy
    injection h1 with h1
    exact hne y e.symm h1.symm
   case q1o18=>
    intro w1 hI;intro v17 h17
    obtain ⟨g17,o17,l17,p17⟩:=h17
    refine t2o (by rfl) ?_;intro K hK;simp only [gv2];go_simp;refine hK _ _ ⟨rfl,Kept.refl _,?_⟩
    show ∃ g,OwnsS _ _ _ _ _ _ _∧_
    simp only [gv1]
    exact ⟨g17,o17,l17,p17⟩
  intro w3 hI
  replace hI:(fun w5=>Below wB.heap.size wB w5) w3:=hI
  intro v0 _;intro v1 h1;replace h1:=h1 (by kernel_rfl);change _=_ at h1;subst v1;intro v2 h2;replace h2:=h2 (by kernel_rfl);change _=_ at h2;subst v2;intro v3 h3;replace h3:=h3 (by kernel_rfl);change _=_ at h3;subst v3;intro v4 h4;replace h4:=h4 (by kernel_rfl);change _=_ at h4;subst v4;intro v5 h5;replace h5:=h5 (by kernel_rfl);change _=_ at h5;subst v5;intro v6 h6
  replace h6:=h6 (by kernel_rfl);change _=_ at h6;subst v6;intro v7 _;intro v8 h8;replace h8:=h8 (by kernel_rfl);change _=_ at h8;subst v8;intro v9 h9;replace h9:=h9 (by kernel_rfl);change _=_ at h9;subst v9;intro v10 h10;replace h10:=h10 (by kernel_rfl);change _=_ at h10;subst v10;intro v11 h11;replace h11:=h11 (by kernel_rfl);change _=_ at h11;subst v11;intro v12 h12
  replace h12:=h12 (by kernel_rfl);change _=_ at h12;subst v12;intro v13 h13;replace h13:=h13 (by kernel_rfl);change _=_ at h13;subst v13;intro v14 _;intro v15 _;intro v16 _;intro v17 h17;replace h17:=h17 (by kernel_rfl)
  obtain ⟨g17,o17,l17,p17⟩:=h17
  intro v18 h18;replace h18:=h18 (by kernel_rfl)
  obtain ⟨g18,o18,l18,p18⟩:=h18
  simp only [Given,gv2]
  obtain ⟨a11,c11,rfl⟩:=o18.shapeN (PN+1) (by rw [List.length_append,List.length_take,prL_len,HNL.out];simp <;> omega)
  have BW:=Lib.hid hI;have O18:=Lib.hid o18;have P18:=Lib.hid p18;have LG:=Lib.hid l18
  have z1:=cel hI HZ1.out
  have c4:=cel hI HC4.out
  have R3:=Lib.hid (HL3.out.1.below hI)
  clear hI o18 p18 l18
  have HF1:Hid (wB.frozen? ⟨H.b,1,none⟩=false):=by
   obtain ⟨_,_,_,_,_,e,_⟩:=HP1.out.row
   exact frozen_of_row wB _ _ _ _ e
  cases la with
  | none=>
   have RP:=Lib.hid (rds_none R3.out PN)
   go_wp2_with (first | (rw [HW4.out]) | (at_builtin;refine appS_all pgEC pgT pgEI rfl (by decide) rfl (.tmp 46) (.tmp 52) rfl _ wB.heap.size (.slice a11 (PN+1) c11) _ rfl O18.out none (NL - PN) (lc - PN) (List.drop PN (prL H LL)) rfl RP.out (by rw [List.length_append,List.length_take,prL_len,HNL.out];simp;omega) BW.out.size ?_;intro v12 w12 ho12 hg12;obtain ⟨a12,c12,rfl⟩:=ho12.shapeN (NL+1) (by rw [List.length_append,List.length_append,List.length_take,List.length_drop,prL_len,HNL.out];simp;omega);have hb12:Below wB.heap.size wB w12:=BW.out.trans (hg12.below BW.out.size (fun y e=>(O18.out.at_base y e).1));have z12:=cel hb12 HZ1.out;have f12:=(Below.frozen hb12 (block_lt_of_cell HZ1.out)).trans HF1.out;have O12:=Lib.hid ho12;have G12:=Lib.hid hg12;have B12:=Lib.hid hb12;have HW4E:∃ y,w12.setCell ⟨H.b,1,none⟩ (.slice a12 (NL+1) c12)=y:=⟨_,rfl⟩;obtain ⟨w4,hw4⟩:=HW4E;have HW4:=Lib.hid hw4;clear hw4 ho12 hg12 hb12))
   have hkinds:=fun y hy=>(O18.out.kind y hy).2
   have p12:Owns .u8 5 w12 wB.heap.size (.slice (some ⟨g18,0,none⟩) NP NP) (zeroP PG):=P18.out.keepK HNP0.out G12.out.1 hkinds u8_kinds
   have hgB:=HB1.out.size
   obtain ⟨N2,hN2⟩:∃ y:Nat→Prop,(fun j=>No j∨j=g18)=y:=⟨_,rfl⟩
   have hp12:PrIn w12 N2 H R LL:=by
    rw [← hN2]
    refine (HP1.out.reno (fun _ h=>.inl h) (fun k hk hn=>?_)).tn (Tn.of (Q:=fun _=>False) B12.out) (fun _ h=>h.elim)
    rcases hn with h | h
    ·exact h
    ·have:=LG.out;omega
   have hnw:¬ H.own LL g18:=fun h=>by have h1:=HLT.out _ (HPP.out.no _ h);have h2:=LG.out;omega
   have hsl:SlV PgE.cells 2 w12 N2 a12 (NL+1) c12 (List.take PN (prL H LL) ++ [⟨N,g18,NP,NP⟩] ++ List.drop PN (prL H LL)):=by
    refine ⟨O12.out.rd pgEC,fun y hy h0 hk=>?_⟩
    obtain ⟨gg,cur,e1,e2,e3⟩:=O12.out.row (by simp;omega)
    rw [hy] at e1
    injection e1 with e1
    rw [← hN2,e1] at hk
    rcases hk with h | h
    ·have h1:=HLT.out _ h
     replace h1:gg < w.heap.size:=h1
     omega
    ·obtain ⟨c2,h2⟩:=p12.kind HNP0.out
     exact kinds_ne e3 h2 pg_kinds h
   have hp4:=hp12.inserted (b:=zeroP PG) (g:=g18) (c:=NP) HSS.out HOK.out (by rw [HNL.out]) (by rw [HPN.out,HZL.out];exact hsl) (by rw [HZL.out];exact p12.mono (Nat.zero_le _)) (by rw [← hN2];exact .inr rfl) hnw
   have hx0:=pgSet_at (b:=zeroP PG) HSS.out HOK.out
   have hpl0:=pgSet_len (b:=zeroP PG) HSS.out HOK.out
   have hfin:=fun d=>pgSet_pgSet HSS.out N (zeroP PG) d
   have hmm:=fun y=>pgSet_mem (b:=zeroP PG) (n:=N) (p:=y) HSS.out
   have hsr:=pgSet_srt (n:=N) (b:=zeroP PG) HSS.out
   have hok2:kget (pgSet LL N (zeroP PG)) N=some (zeroP PG):=by rw [kget_pgSet HSS.out,if_pos rfl]
   have hq2:(H.put N g18 NP).q N=g18:=upd_same _ _ _
   have hop:∀ k,(H.put N g18 NP).own (pgSet LL N (zeroP PG)) k→k=g18∨H.own LL k:=fun k hk=>PrH.own_put HSS.out hk
   have hb2:(H.put N g18 NP).b=H.b:=rfl
   rw [HPN.out] at hx0;rw [HW4.out] at hp4
   have hpgz:=pgOk_zero hpg.1
   obtain ⟨ZB,hZB⟩:∃ y,zeroP PG=y:=⟨_,rfl⟩
   obtain ⟨L2,hL2⟩:∃ y,pgSet LL N (zeroP PG)=y:=⟨_,rfl⟩
   obtain ⟨H2,hH2⟩:∃ y,H.put N g18 NP=y:=⟨_,rfl⟩
   rw [hL2] at hp4 hx0 hpl0 hsr hok2 hop
   simp only [hL2] at hfin hmm
   rw [hH2] at hp4 hq2 hop hb2;rw [hZB] at hx0 hok2 hpgz
   simp only [hZB] at hmm
   have HP4:=Lib.hid hp4;have HS2:=Lib.hid hsr;have HOK2:=Lib.hid hok2;have HFIN:=Lib.hid hfin;have HQ2:=Lib.hid hq2;have HOP:=Lib.hid hop;have HB2:=Lib.hid hb2
   have HPG2:Hid (∀ x ∈ L2,PgOk PG x.2):=fun y hy=>by
    rcases (hmm y).1 hy with e | ⟨e,_⟩
    ·rw [e];exact hpgz
    ·exact HPGS.out y e
   have hlp:PN < L2.length:=by rw [hpl0,HNL.out];omega
   have HT4:Hid (Tn (H.own LL) w w4):=by
    show Tn _ _ _
    rw [← HW4.out]
    exact (Tn.of (Below.call HB1.out B12.out)).put (cell_grown1 w12 H.b 1 _) (.inl (.inl rfl))
   have hnmb:mb ≠ H.b:=fun e=>HNM.out (by rw [e];exact HPP.out.no _ (.inl rfl))
   replace c4:w4.cell? ⟨mb,4,none⟩=some (.int .i64 PG):=by
    rw [← HW4.out,World.cell?_of_block (a:=⟨mb,4,none⟩) (heap_setCell_other w12 ⟨H.b,1,none⟩ mb _ hnmb)]
    exact cel B12.out HC4.out
   have HN2:Hid (∀ j,No j→N2 j):=fun j hj=>by rw [← hN2];exact .inl hj
   have HN2':Hid (∀ j,N2 j→No j∨j=g18):=fun j hj=>by rw [← hN2] at hj;exact hj
   have HGB:Hid (w.heap.size≤H2.q N):=by have h1:=LG.out;show _≤_;rw [hq2];omega
   have HZB:=Lib.hid hZB
   have hx:=hx0
   have hmem:=List.mem_of_getElem? hx
   have hkg:True:=trivial
   clear hx0 hpl0 hfin hmm hsr hok2 hq2 hop hb2 hp4 hpgz hsl hnw hp12 hN2 p12 hkinds hgB hZB hL2 hH2 z12 f12 hnmb z1
   obtain ⟨ra,rn,rc,la,lc,_,z1,_,h3⟩:=HP4.out.cell
   rw [HB2.out] at z1
   obtain ⟨bb,oo,rfl,q0,q1⟩:=pge_at h3 hx
   have hown:=HP4.out.pg _ hmem
   have hbl:(ZB.length:Int)=PG:=(HPG2.out _ hmem).1
   obtain ⟨NB,hNB⟩:∃ x,ZB.length=x:=⟨_,rfl⟩
   replace q1:w4.cell? ⟨bb,oo+PN * 2+1,none⟩=some (.slice (some ⟨H2.q N,0,none⟩) ZB.length (H2.cp N)):=q1
   replace hown:Owns .u8 5 w4 0 (.slice (some ⟨H2.q N,0,none⟩) ZB.length (H2.cp N)) ZB:=hown
   rw [hNB] at q1 hown hbl
   obtain ⟨g,hg,_,_,hcell,hfz⟩:=hown.cellAt RR (by rw [hNB];omega)
   injection hg with hg
   injection hg with hg _ _
   rw [← hg] at hcell hfz
   have hpb:pgB PG L2 N=ZB:=by unfold pgB;rw [HOK2.out];rfl
   have HPB:=Lib.hid hpb;have HM:=Lib.hid hmem
   obtain ⟨NL,hNL⟩:∃ y,L2.length=y:=⟨_,rfl⟩
   rw [hNL] at z1 hlp
   have hRN:RR < NB:=by omega
   clear hown hkg hx hmem h3 hpb hNB hg hNL q0
   have hcc:∃ vv,w4.cell? ⟨H2.q N,RR,none⟩=some vv:=⟨_,hcell⟩
   obtain ⟨vv,hcc⟩:=hcc
   have hbd:Below w4.heap.size w4 w4.drew:=⟨rfl,rfl,rfl,Nat.le_refl _,fun _ _=>rfl⟩
   have hst0:PrIn w4.drew N2 H2 R L2∧w4.cell? ⟨H2.q N,RR,none⟩=some vv∧w4.frozen? ⟨H2.q N,RR,none⟩=false:=⟨HP4.out.tn (Tn.of (Q:=fun _=>False) hbd) (fun _ h=>h.elim),hcc,hfz⟩
   have htn0:Tn (H.own LL) w w4.drew:=HT4.out.call hbd
   clear hbd
   obtain ⟨wC,hwC⟩:∃ y:World,y=w4:=⟨_,rfl⟩
   subst hwC;go_wp2_with fail
   refine' reg_order [eqV _,eqV _,eqV _,eqV _,eqV _,eqV _,eqV _,eqV _,eqV _,eqV _,eqV _,eqV _,eqV _,eqV _,eqV _,eqV _,eqV _,(fun _ w5=>PrIn w5 N2 H2 R (pgSet L2 N (ZB.set RR x)))] [(17,fun w5 w6=>World.grownBy w5 w6 (some (H2.q N)))] [(3,fun w5=>w5.cell? ⟨H.b,1,none⟩=some (.slice (some ⟨bb,oo,none⟩) NL lc)),(7,fun w5=>w5.cell? ⟨bb,oo+PN * 2+1,none⟩=some (.slice (some ⟨H2.q N,0,none⟩) NB (H2.cp N))),(13,fun w5=>w5.cell? ⟨mb,4,none⟩=some (.int .i64 PG)),(17,fun w5=>PrIn w5 N2 H2 R L2∧w5.cell? ⟨H2.q N,RR,none⟩=some vv∧w5.frozen? ⟨H2.q N,RR,none⟩=false),(18,fun w5=>Tn (H.own LL) w w5)] [56,57,58,59,60,61,62,63,64,65,66,67,68,69,70,71,72,90] [[],[0],[1],[2],[],[3,4],[5],[6],[],[],[9],[10],[11],[12],[8,13],[],[7,14],[15,16]] [0,1,2,3,4,5,6,7,8,9,10,11,12,13,14,15,16,17] 18 (by kernel_rfl) ⟨eS _,eS _,eS _,eS _,eS _,eS _,eS _,eS _,eS _,eS _,eS _,eS _,eS _,eS _,eS _,eS _,eS _,fun _ _ _ p b=>p.tn (Tn.of (Q:=fun _=>False) b) (fun _ h=>h.elim),trivial⟩ ⟨⟨.inl (eS _),.inl (eS _),.inl (eS _),.inl (eS _),.inl (eS _),.inl (eS _),.inl (eS _),.inl (eS _),.inl (eS _),.inl (eS _),.inl (eS _),.inl (eS _),.inl (eS _),.inl (eS _),.inl (eS _),.inl (eS _),.inl (eS _),.inr (.inr rfl),trivial⟩,trivial⟩ ⟨fun _ _ p b=>cel b p,fun _ _ p b=>cel b p,fun _ _ p b=>cel b p,fun _ _ p b=>⟨p.1.tn (Tn.of (Q:=fun _=>False) b) (fun _ h=>h.elim),cel b p.2.1,(Below.frozen b (block_lt_of_cell p.2.1)).trans p.2.2⟩,fun _ _ p b=>p.call b,trivial⟩ ⟨⟨.inr (.inl (by kernel_rfl)),.inr (.inl (by kernel_rfl)),.inr (.inl (by kernel_rfl)),.inr (.inr rfl),.inl (fun _ _ p g=>p.put g (.inr HGB.out)),trivial⟩,trivial⟩ ⟨z1,q1,c4,hst0,htn0,trivial⟩ 73 rfl (by kernel_rfl) (by kernel_rfl) rfl rfl 18 rfl ?q2obl ?q2fin
   case q2obl=>
    refine ⟨?q2o0,?q2o1,?q2o2,?q2o3,?q2o4,?q2o5,?q2o6,?q2o7,?q2o8,?q2o9,?q2o10,?q2o11,?q2o12,?q2o13,?q2o14,?q2o15,?q2o16,?q2o17,trivial⟩
    case q2o0 | q2o4 | q2o8 | q2o9 | q2o15=>
     intro w1 hI;refine t2o (by rfl) ?_;intro K hK;go_simp;refine hK _ _ ⟨rfl,Kept.refl _,?_⟩;show _=_;simp only [gv1];rfl
    case q2o1 | q2o2=>
     intro w1 hI;intro va ha;change _=_ at ha;subst va;refine t2o (by rfl) ?_;intro K hK;simp only [gv2];go_simp;refine hK _ _ ⟨rfl,Kept.refl _,?_⟩;show _=_;simp only [gv1];rfl
    case q2o3=>
     intro w1 hI
     replace hI:(fun w5=>w5.cell? ⟨H.b,1,none⟩=some (.slice (some ⟨bb,oo,none⟩) NL lc)) w1:=hI
     intro v2 h2;change _=_ at h2;subst v2;refine t2o (by rfl) ?_;intro K hK;simp only [gv2]
     have hc:=hI
     go_simp;refine hK _ _ ⟨rfl,Kept.refl _,?_⟩;show _=_;simp only [gv1];rfl
    case q2o5=>
     intro w1 hI;intro va ha;change _=_ at ha;subst va;intro vb hb;change _=_ at hb;subst vb;refine t2o (by rfl) ?_;intro K hK;simp only [gv2];go_simp;refine hK _ _ ⟨rfl,Kept.refl _,?_⟩;show _=_;simp only [gv1];rfl
    case q2o6=>
     intro w1 hI;intro va ha;change _=_ at ha;subst va;refine t2o (by rfl) ?_;intro K hK;simp only [gv2];go_simp;refine hK _ _ ⟨rfl,Kept.refl _,?_⟩;show _=_;simp only [gv1];rfl
    case q2o7=>
     intro w1 hI
     replace hI:(fun w5=>w5.cell? ⟨bb,oo+PN * 2+1,none⟩=some (.slice (some ⟨H2.q N,0,none⟩) NB (H2.cp N))) w1:=hI
     intro v6 h6;change _=_ at h6;subst v6;refine t2o (by rfl) ?_;intro K hK;simp only [gv2]
     have hc:=hI
     go_simp;refine hK _ _ ⟨rfl,Kept.refl _,?_⟩;show _=_;simp only [gv1];rfl
    case q2o10 | q2o11 | q2o12=>
     intro w1 hI;intro va ha;change _=_ at ha;subst va;refine t2o (by rfl) ?_;intro K hK;simp only [gv2];go_simp;refine hK _ _ ⟨rfl,Kept.refl _,?_⟩;show _=_;simp only [gv1];rfl
    case q2o13=>
     intro w1 hI
     replace hI:(fun w5=>w5.cell? ⟨mb,4,none⟩=some (.int .i64 PG)) w1:=hI
     intro v12 h12;change _=_ at h12;subst v12;refine t2o (by rfl) ?_;intro K hK;simp only [gv2]
     have hc:=hI
     go_simp;refine hK _ _ ⟨rfl,Kept.refl _,?_⟩;show _=_;simp only [gv1];rfl
    case q2o14 | q2o16=>
     intro w1 hI;intro va ha;change _=_ at ha;subst va;intro vb hb;change _=_ at hb;subst vb;refine t2o (by rfl) ?_;intro K hK;simp only [gv2];go_simp;refine hK _ _ ⟨rfl,Kept.refl _,?_⟩;show _=_;simp only [gv1];rfl
    case q2o17=>
     intro w1 hI
     replace hI:(fun w5=>PrIn w5 N2 H2 R L2∧w5.cell? ⟨H2.q N,RR,none⟩=some vv∧w5.frozen? ⟨H2.q N,RR,none⟩=false) w1:=hI
     intro v15 h15;change _=_ at h15;subst v15;intro v16 h16;change _=_ at h16;subst v16;refine t2o (by rfl) ?_;intro K hK;simp only [gv2]
     obtain ⟨hp3,hc3,hf3⟩:=hI
     go_simp
     refine hK _ _ ⟨rfl,grown_cell _ _ _ _,?_⟩
     exact hp3.stored HS2.out HM.out RR x HX.out
   intro w5 hI
   replace hI:(fun w5=>Tn (H.own LL) w w5) w5:=hI
   intro v0 h0;change _=_ at h0;subst v0;intro v1 h1;change _=_ at h1;subst v1;intro v2 h2;change _=_ at h2;subst v2;intro v3 h3;change _=_ at h3;subst v3;intro v4 h4;change _=_ at h4;subst v4;intro v5 h5;change _=_ at h5;subst v5;intro v6 h6;change _=_ at h6;subst v6;intro v7 h7;change _=_ at h7;subst v7;intro v8 h8;change _=_ at h8;subst v8;intro v9 h9
   change _=_ at h9;subst v9;intro v10 h10;change _=_ at h10;subst v10;intro v11 h11;change _=_ at h11;subst v11;intro v12 h12;change _=_ at h12;subst v12;intro v13 h13;change _=_ at h13;subst v13;intro v14 h14;change _=_ at h14;subst v14;intro v15 h15;change _=_ at h15;subst v15;intro v16 h16;change _=_ at h16;subst v16;intro v17 h17
   simp only [Given,gv2]
   have hPF:=h17
   have hTF:=hI
   clear h17 hI hst0 htn0;go_wp2_with fail;rw [HPB0.out,HZB.out,← HFIN.out (ZB.set RR x)]
   go_end0
   refine ⟨rfl,H2,hPF.reno (fun j h=>(HN2'.out j h).elim .inl (fun e=>.inr (.inr ⟨(N,ZB.set RR x),(pgSet_mem HS2.out).2 (.inl rfl),by rw [e];exact HQ2.out.symm⟩))) (fun j _ h=>h.elim (HN2.out j) (hPF.no j)),HB2.out,hTF,fun j hj=>?_⟩
   rcases PrH.own_set HS2.out hj with e | e
   ·exact .inr (by rw [e];exact HGB.out)
   ·rcases HOP.out j e with e2 | e2
    ·exact .inr (by have h1:=LG.out;have h2:=HB1.out.size;omega)
    ·exact .inl e2
  | some ad=>
   have hif:∀ (A B:Option Addr),(if lc=PN then A else B)=pkI lc PN A B:=fun _ _=>rfl
   have rp:=rds_pkI R3.out PN hple
   obtain ⟨a1,ha1⟩:∃ a1,pkI lc PN (some ad) (some (ad.add (PN * 2)))=a1:=⟨_,rfl⟩
   rw [ha1] at rp;have RP:=Lib.hid rp;clear rp
   go_wp2_with (first | (rw [HW4.out]) | (at_builtin;refine appS_all pgEC pgT pgEI rfl (by decide) rfl (.tmp 46) (.tmp 52) rfl _ wB.heap.size (.slice a11 (PN+1) c11) _ rfl O18.out a1 (NL - PN) (lc - PN) (List.drop PN (prL H LL)) rfl RP.out (by rw [List.length_append,List.length_take,prL_len,HNL.out];simp;omega) BW.out.size ?_;intro v12 w12 ho12 hg12;obtain ⟨a12,c12,rfl⟩:=ho12.shapeN (NL+1) (by rw [List.length_append,List.length_append,List.length_take,List.length_drop,prL_len,HNL.out];simp;omega);have hb12:Below wB.heap.size wB w12:=BW.out.trans (hg12.below BW.out.size (fun y e=>(O18.out.at_base y e).1));have z12:=cel hb12 HZ1.out;have f12:=(Below.frozen hb12 (block_lt_of_cell HZ1.out)).trans HF1.out;have O12:=Lib.hid ho12;have G12:=Lib.hid hg12;have B12:=Lib.hid hb12;have HW4E:∃ y,w12.setCell ⟨H.b,1,none⟩ (.slice a12 (NL+1) c12)=y:=⟨_,rfl⟩;obtain ⟨w4,hw4⟩:=HW4E;have HW4:=Lib.hid hw4;clear hw4 ho12 hg12 hb12))
   have hkinds:=fun y hy=>(O18.out.kind y hy).2
   have p12:Owns .u8 5 w12 wB.heap.size (.slice (some ⟨g18,0,none⟩) NP NP) (zeroP PG):=P18.out.keepK HNP0.out G12.out.1 hkinds u8_kinds
   have hgB:=HB1.out.size
   obtain ⟨N2,hN2⟩:∃ y:Nat→Prop,(fun j=>No j∨j=g18)=y:=⟨_,rfl⟩
   have hp12:PrIn w12 N2 H R LL:=by
    rw [← hN2]
    refine (HP1.out.reno (fun _ h=>.inl h) (fun k hk hn=>?_)).tn (Tn.of (Q:=fun _=>False) B12.out) (fun _ h=>h.elim)
    rcases hn with h | h
    ·exact h
    ·have:=LG.out;omega
   have hnw:¬ H.own LL g18:=fun h=>by have h1:=HLT.out _ (HPP.out.no _ h);have h2:=LG.out;omega
   have hsl:SlV PgE.cells 2 w12 N2 a12 (NL+1) c12 (List.take PN (prL H LL) ++ [⟨N,g18,NP,NP⟩] ++ List.drop PN (prL H LL)):=by
    refine ⟨O12.out.rd pgEC,fun y hy h0 hk=>?_⟩
    obtain ⟨gg,cur,e1,e2,e3⟩:=O12.out.row (by simp;omega)
    rw [hy] at e1
    injection e1 with e1
    rw [← hN2,e1] at hk
    rcases hk with h | h
    ·have h1:=HLT.out _ h
     replace h1:gg < w.heap.size:=h1
     omega
    ·obtain ⟨c2,h2⟩:=p12.kind HNP0.out
     exact kinds_ne e3 h2 pg_kinds h
   have hp4:=hp12.inserted (b:=zeroP PG) (g:=g18) (c:=NP) HSS.out HOK.out (by rw [HNL.out]) (by rw [HPN.out,HZL.out];exact hsl) (by rw [HZL.out];exact p12.mono (Nat.zero_le _)) (by rw [← hN2];exact .inr rfl) hnw
   have hx0:=pgSet_at (b:=zeroP PG) HSS.out HOK.out
   have hpl0:=pgSet_len (b:=zeroP PG) HSS.out HOK.out
   have hfin:=fun d=>pgSet_pgSet HSS.out N (zeroP PG) d
   have hmm:=fun y=>pgSet_mem (b:=zeroP PG) (n:=N) (p:=y) HSS.out
   have hsr:=pgSet_srt (n:=N) (b:=zeroP PG) HSS.out
   have hok2:kget (pgSet LL N (zeroP PG)) N=some (zeroP PG):=by rw [kget_pgSet HSS.out,if_pos rfl]
   have hq2:(H.put N g18 NP).q N=g18:=upd_same _ _ _
   have hop:∀ k,(H.put N g18 NP).own (pgSet LL N (zeroP PG)) k→k=g18∨H.own LL k:=fun k hk=>PrH.own_put HSS.out hk
   have hb2:(H.put N g18 NP).b=H.b:=rfl
   rw [HPN.out] at hx0;rw [HW4.out] at hp4
   have hpgz:=pgOk_zero hpg.1
   obtain ⟨ZB,hZB⟩:∃ y,zeroP PG=y:=⟨_,rfl⟩
   obtain ⟨L2,hL2⟩:∃ y,pgSet LL N (zeroP PG)=y:=⟨_,rfl⟩
   obtain ⟨H2,hH2⟩:∃ y,H.put N g18 NP=y:=⟨_,rfl⟩
   rw [hL2] at hp4 hx0 hpl0 hsr hok2 hop
   simp only [hL2] at hfin hmm
   rw [hH2] at hp4 hq2 hop hb2;rw [hZB] at hx0 hok2 hpgz
   simp only [hZB] at hmm
   have HP4:=Lib.hid hp4;have HS2:=Lib.hid hsr;have HOK2:=Lib.hid hok2;have HFIN:=Lib.hid hfin;have HQ2:=Lib.hid hq2;have HOP:=Lib.hid hop;have HB2:=Lib.hid hb2
   have HPG2:Hid (∀ x ∈ L2,PgOk PG x.2):=fun y hy=>by
    rcases (hmm y).1 hy with e | ⟨e,_⟩
    ·rw [e];exact hpgz
    ·exact HPGS.out y e
   have hlp:PN < L2.length:=by rw [hpl0,HNL.out];omega
   have HT4:Hid (Tn (H.own LL) w w4):=by
    show Tn _ _ _
    rw [← HW4.out]
    exact (Tn.of (Below.call HB1.out B12.out)).put (cell_grown1 w12 H.b 1 _) (.inl (.inl rfl))
   have hnmb:mb ≠ H.b:=fun e=>HNM.out (by rw [e];exact HPP.out.no _ (.inl rfl))
   replace c4:w4.cell? ⟨mb,4,none⟩=some (.int .i64 PG):=by
    rw [← HW4.out,World.cell?_of_block (a:=⟨mb,4,none⟩) (heap_setCell_other w12 ⟨H.b,1,none⟩ mb _ hnmb)]
    exact cel B12.out HC4.out
   have HN2:Hid (∀ j,No j→N2 j):=fun j hj=>by rw [← hN2];exact .inl hj
   have HN2':Hid (∀ j,N2 j→No j∨j=g18):=fun j hj=>by rw [← hN2] at hj;exact hj
   have HGB:Hid (w.heap.size≤H2.q N):=by have h1:=LG.out;show _≤_;rw [hq2];omega
   have HZB:=Lib.hid hZB
   have hx:=hx0
   have hmem:=List.mem_of_getElem? hx
   have hkg:True:=trivial
   clear hx0 hpl0 hfin hmm hsr hok2 hq2 hop hb2 hp4 hpgz hsl hnw hp12 hN2 p12 hkinds hgB hZB hL2 hH2 z12 f12 hnmb z1
   obtain ⟨ra,rn,rc,la,lc,_,z1,_,h3⟩:=HP4.out.cell
   rw [HB2.out] at z1
   obtain ⟨bb,oo,rfl,q0,q1⟩:=pge_at h3 hx
   have hown:=HP4.out.pg _ hmem
   have hbl:(ZB.length:Int)=PG:=(HPG2.out _ hmem).1
   obtain ⟨NB,hNB⟩:∃ x,ZB.length=x:=⟨_,rfl⟩
   replace q1:w4.cell? ⟨bb,oo+PN * 2+1,none⟩=some (.slice (some ⟨H2.q N,0,none⟩) ZB.length (H2.cp N)):=q1
   replace hown:Owns .u8 5 w4 0 (.slice (some ⟨H2.q N,0,none⟩) ZB.length (H2.cp N)) ZB:=hown
   rw [hNB] at q1 hown hbl
   obtain ⟨g,hg,_,_,hcell,hfz⟩:=hown.cellAt RR (by rw [hNB];omega)
   injection hg with hg
   injection hg with hg _ _
   rw [← hg] at hcell hfz
   have hpb:pgB PG L2 N=ZB:=by unfold pgB;rw [HOK2.out];rfl
   have HPB:=Lib.hid hpb;have HM:=Lib.hid hmem
   obtain ⟨NL,hNL⟩:∃ y,L2.length=y:=⟨_,rfl⟩
   rw [hNL] at z1 hlp
   have hRN:RR < NB:=by omega
   clear hown hkg hx hmem h3 hpb hNB hg hNL q0
   have hcc:∃ vv,w4.cell? ⟨H2.q N,RR,none⟩=some vv:=⟨_,hcell⟩
   obtain ⟨vv,hcc⟩:=hcc
   have hbd:Below w4.heap.size w4 w4.drew:=⟨rfl,rfl,rfl,Nat.le_refl _,fun _ _=>rfl⟩
   have hst0:PrIn w4.drew N2 H2 R L2∧w4.cell? ⟨H2.q N,RR,none⟩=some vv∧w4.frozen? ⟨H2.q N,RR,none⟩=false:=⟨HP4.out.tn (Tn.of (Q:=fun _=>False) hbd) (fun _ h=>h.elim),hcc,hfz⟩
   have htn0:Tn (H.own LL) w w4.drew:=HT4.out.call hbd
   clear hbd
   obtain ⟨wC,hwC⟩:∃ y:World,y=w4:=⟨_,rfl⟩
   subst hwC;go_wp2_with fail
   refine' reg_order [eqV _,eqV _,eqV _,eqV _,eqV _,eqV _,eqV _,eqV _,eqV _,eqV _,eqV _,eqV _,eqV _,eqV _,eqV _,eqV _,eqV _,(fun _ w5=>PrIn w5 N2 H2 R (pgSet L2 N (ZB.set RR x)))] [(17,fun w5 w6=>World.grownBy w5 w6 (some (H2.q N)))] [(3,fun w5=>w5.cell? ⟨H.b,1,none⟩=some (.slice (some ⟨bb,oo,none⟩) NL lc)),(7,fun w5=>w5.cell? ⟨bb,oo+PN * 2+1,none⟩=some (.slice (some ⟨H2.q N,0,none⟩) NB (H2.cp N))),(13,fun w5=>w5.cell? ⟨mb,4,none⟩=some (.int .i64 PG)),(17,fun w5=>PrIn w5 N2 H2 R L2∧w5.cell? ⟨H2.q N,RR,none⟩=some vv∧w5.frozen? ⟨H2.q N,RR,none⟩=false),(18,fun w5=>Tn (H.own LL) w w5)] [56,57,58,59,60,61,62,63,64,65,66,67,68,69,70,71,72,90] [[],[0],[1],[2],[],[3,4],[5],[6],[],[],[9],[10],[11],[12],[8,13],[],[7,14],[15,16]] [0,1,2,3,4,5,6,7,8,9,10,11,12,13,14,15,16,17] 18 (by kernel_rfl) ⟨eS _,eS _,eS _,eS _,eS _,eS _,eS _,eS _,eS _,eS _,eS _,eS _,eS _,eS _,eS _,eS _,eS _,fun _ _ _ p b=>p.tn (Tn.of (Q:=fun _=>False) b) (fun _ h=>h.elim),trivial⟩ ⟨⟨.inl (eS _),.inl (eS _),.inl (eS _),.inl (eS _),.inl (eS _),.inl (eS _),.inl (eS _),.inl (eS _),.inl (eS _),.inl (eS _),.inl (eS _),.inl (eS _),.inl (eS _),.inl (eS _),.inl (eS _),.inl (eS _),.inl (eS _),.inr (.inr rfl),trivial⟩,trivial⟩ ⟨fun _ _ p b=>cel b p,fun _ _ p b=>cel b p,fun _ _ p b=>cel b p,fun _ _ p b=>⟨p.1.tn (Tn.of (Q:=fun _=>False) b) (fun _ h=>h.elim),cel b p.2.1,(Below.frozen b (block_lt_of_cell p.2.1)).trans p.2.2⟩,fun _ _ p b=>p.call b,trivial⟩ ⟨⟨.inr (.inl (by kernel_rfl)),.inr (.inl (by kernel_rfl)),.inr (.inl (by kernel_rfl)),.inr (.inr rfl),.inl (fun _ _ p g=>p.put g (.inr HGB.out)),trivial⟩,trivial⟩ ⟨z1,q1,c4,hst0,htn0,trivial⟩ 73 rfl (by kernel_rfl) (by kernel_rfl) rfl rfl 18 rfl ?q3obl ?q3fin
   case q3obl=>
    refine ⟨?q3o0,?q3o1,?q3o2,?q3o3,?q3o4,?q3o5,?q3o6,?q3o7,?q3o8,?q3o9,?q3o10,?q3o11,?q3o12,?q3o13,?q3o14,?q3o15,?q3o16,?q3o17,trivial⟩
    case q3o0 | q3o4 | q3o8 | q3o9 | q3o15=>
     intro w1 hI;refine t2o (by rfl) ?_;intro K hK;go_simp;refine hK _ _ ⟨rfl,Kept.refl _,?_⟩;show _=_;simp only [gv1];rfl
    case q3o1 | q3o2=>
     intro w1 hI;intro va ha;change _=_ at ha;subst va;refine t2o (by rfl) ?_;intro K hK;simp only [gv2];go_simp;refine hK _ _ ⟨rfl,Kept.refl _,?_⟩;show _=_;simp only [gv1];rfl
    case q3o3=>
     intro w1 hI
     replace hI:(fun w5=>w5.cell? ⟨H.b,1,none⟩=some (.slice (some ⟨bb,oo,none⟩) NL lc)) w1:=hI
     intro v2 h2;change _=_ at h2;subst v2;refine t2o (by rfl) ?_;intro K hK;simp only [gv2]
     have hc:=hI
     go_simp;refine hK _ _ ⟨rfl,Kept.refl _,?_⟩;show _=_;simp only [gv1];rfl
    case q3o5=>
     intro w1 hI;intro va ha;change _=_ at ha;subst va;intro vb hb;change _=_ at hb;subst vb;refine t2o (by rfl) ?_;intro K hK;simp only [gv2];go_simp;refine hK _ _ ⟨rfl,Kept.refl _,?_⟩;show _=_;simp only [gv1];rfl
    case q3o6=>
     intro w1 hI;intro va ha;change _=_ at ha;subst va;refine t2o (by rfl) ?_;intro K hK;simp only [gv2];go_simp;refine hK _ _ ⟨rfl,Kept.refl _,?_⟩;show _=_;simp only [gv1];rfl
    case q3o7=>
     intro w1 hI
     replace hI:(fun w5=>w5.cell? ⟨bb,oo+PN * 2+1,none⟩=some (.slice (some ⟨H2.q N,0,none⟩) NB (H2.cp N))) w1:=hI
     intro v6 h6;change _=_ at h6;subst v6;refine t2o (by rfl) ?_;intro K hK;simp only [gv2]
     have hc:=hI
     go_simp;refine hK _ _ ⟨rfl,Kept.refl _,?_⟩;show _=_;simp only [gv1];rfl
    case q3o10 | q3o11 | q3o12=>
     intro w1 hI;intro va ha;change _=_ at ha;subst va;refine t2o (by rfl) ?_;intro K hK;simp only [gv2];go_simp;refine hK _ _ ⟨rfl,Kept.refl _,?_⟩;show _=_;simp only [gv1];rfl
    case q3o13=>
     intro w1 hI
     replace hI:(fun w5=>w5.cell? ⟨mb,4,none⟩=some (.int .i64 PG)) w1:=hI
     intro v12 h12;change _=_ at h12;subst v12;refine t2o (by rfl) ?_;intro K hK;simp only [gv2]
     have hc:=hI
     go_simp;refine hK _ _ ⟨rfl,Kept.refl _,?_⟩;show _=_;simp only [gv1];rfl
    case q3o14 | q3o16=>
     intro w1 hI;intro va ha;change _=_ at ha;subst va;intro vb hb;change _=_ at hb;subst vb;refine t2o (by rfl) ?_;intro K hK;simp only [gv2];go_simp;refine hK _ _ ⟨rfl,Kept.refl _,?_⟩;show _=_;simp only [gv1];rfl
    case q3o17=>
     intro w1 hI
     replace hI:(fun w5=>PrIn w5 N2 H2 R L2∧w5.cell? ⟨H2.q N,RR,none⟩=some vv∧w5.frozen? ⟨H2.q N,RR,none⟩=false) w1:=hI
     intro v15 h15;change _=_ at h15;subst v15;intro v16 h16;change _=_ at h16;subst v16;refine t2o (by rfl) ?_;intro K hK;simp only [gv2]
     obtain ⟨hp3,hc3,hf3⟩:=hI
     go_simp
     refine hK _ _ ⟨rfl,grown_cell _ _ _ _,?_⟩
     exact hp3.stored HS2.out HM.out RR x HX.out
   intro w5 hI
   replace hI:(fun w5=>Tn (H.own LL) w w5) w5:=hI
   intro v0 h0;change _=_ at h0;subst v0;intro v1 h1;change _=_ at h1;subst v1;intro v2 h2;change _=_ at h2;subst v2;intro v3 h3;change _=_ at h3;subst v3;intro v4 h4;change _=_ at h4;subst v4;intro v5 h5;change _=_ at h5;subst v5;intro v6 h6;change _=_ at h6;subst v6;intro v7 h7;change _=_ at h7;subst v7;intro v8 h8;change _=_ at h8;subst v8;intro v9 h9
   change _=_ at h9;subst v9;intro v10 h10;change _=_ at h10;subst v10;intro v11 h11;change _=_ at h11;subst v11;intro v12 h12;change _=_ at h12;subst v12;intro v13 h13;change _=_ at h13;subst v13;intro v14 h14;change _=_ at h14;subst v14;intro v15 h15;change _=_ at h15;subst v15;intro v16 h16;change _=_ at h16;subst v16;intro v17 h17
   simp only [Given,gv2]
   have hPF:=h17
   have hTF:=hI
   clear h17 hI hst0 htn0;go_wp2_with fail;rw [HPB0.out,HZB.out,← HFIN.out (ZB.set RR x)]
   go_end0
   refine ⟨rfl,H2,hPF.reno (fun j h=>(HN2'.out j h).elim .inl (fun e=>.inr (.inr ⟨(N,ZB.set RR x),(pgSet_mem HS2.out).2 (.inl rfl),by rw [e];exact HQ2.out.symm⟩))) (fun j _ h=>h.elim (HN2.out j) (hPF.no j)),HB2.out,hTF,fun j hj=>?_⟩
   rcases PrH.own_set HS2.out hj with e | e
   ·exact .inr (by rw [e];exact HGB.out)
   ·rcases HOP.out j e with e2 | e2
    ·exact .inr (by have h1:=LG.out;have h2:=HB1.out.size;omega)
    ·exact .inl e2
 | some b=>
  have hlp:PN < LL.length:=by
   have h1:=pos_le LL N
   rw [HPN.out] at h1
   by_cases e:PN=LL.length
   ·have:=pos_none (L:=LL) (n:=N) (by rw [HPN.out];exact e)
    rw [HOK.out] at this
    cases this
   ·omega
  obtain ⟨x,hx⟩:∃ x,LL[PN]?=some x:=⟨_,List.getElem?_eq_getElem hlp⟩
  have hkg:=pos_kget HSS.out (n:=N) (x:=x) (by rw [HPN.out];exact hx)
  rw [HOK.out] at hkg
  have hx1:x.1=N∧b=x.2:=by
   by_cases e:x.1=N
   ·rw [if_pos e] at hkg;injection hkg with hkg;exact ⟨e,hkg⟩
   ·rw [if_neg e] at hkg;cases hkg
  obtain ⟨x1,x2⟩:=x
  obtain ⟨rfl,rfl⟩:x1=N∧b=x2:=hx1
  have hmem:=List.mem_of_getElem? hx

  obtain ⟨ra,rn,rc,la,lc,_,z1,_,h3⟩:=HP1.out.cell
  skip
  obtain ⟨bb,oo,rfl,q0,q1⟩:=pge_at h3 hx
  have hown:=HP1.out.pg _ hmem
  have hbl:(b.length:Int)=PG:=(HPGS.out _ hmem).1
  obtain ⟨NB,hNB⟩:∃ x,b.length=x:=⟨_,rfl⟩
  replace q1:w1.cell? ⟨bb,oo+PN * 2+1,none⟩=some (.slice (some ⟨H.q x1,0,none⟩) b.length (H.cp x1)):=q1
  replace hown:Owns .u8 5 w1 0 (.slice (some ⟨H.q x1,0,none⟩) b.length (H.cp x1)) b:=hown
  rw [hNB] at q1 hown hbl
  obtain ⟨g,hg,_,_,hcell,hfz⟩:=hown.cellAt RR (by rw [hNB];omega)
  injection hg with hg
  injection hg with hg _ _
  rw [← hg] at hcell hfz
  have hpb:pgB PG LL x1=b:=by unfold pgB;rw [HOK.out];rfl
  have HPB:=Lib.hid hpb;have HM:=Lib.hid hmem
  obtain ⟨NL,hNL⟩:∃ y,LL.length=y:=⟨_,rfl⟩
  rw [hNL] at z1 hlp
  have hRN:RR < NB:=by omega
  clear hown hkg hx hmem h3 hpb hNB hg hNL q0
  have hcc:∃ vv,w1.cell? ⟨H.q x1,RR,none⟩=some vv:=⟨_,hcell⟩
  obtain ⟨vv,hcc⟩:=hcc
  have hbd:Below w1.heap.size w1 w1.drew:=⟨rfl,rfl,rfl,Nat.le_refl _,fun _ _=>rfl⟩
  have hst0:PrIn w1.drew No H R LL∧w1.cell? ⟨H.q x1,RR,none⟩=some vv∧w1.frozen? ⟨H.q x1,RR,none⟩=false:=⟨HP1.out.tn (Tn.of (Q:=fun _=>False) hbd) (fun _ h=>h.elim),hcc,hfz⟩
  have htn0:Tn (H.own LL) w w1.drew:=(Tn.of HB1.out:Tn (H.own LL) w w1).call hbd
  clear hbd
  obtain ⟨wB,hwB⟩:∃ y:World,y=w1:=⟨_,rfl⟩
  subst hwB;go_wp2_with fail
  refine' reg_order [eqV _,eqV _,eqV _,eqV _,eqV _,eqV _,eqV _,eqV _,eqV _,eqV _,eqV _,eqV _,eqV _,eqV _,eqV _,eqV _,eqV _,(fun _ w5=>PrIn w5 No H R (pgSet LL x1 (b.set RR x)))] [(17,fun w5 w6=>World.grownBy w5 w6 (some (H.q x1)))] [(3,fun w5=>w5.cell? ⟨H.b,1,none⟩=some (.slice (some ⟨bb,oo,none⟩) NL lc)),(7,fun w5=>w5.cell? ⟨bb,oo+PN * 2+1,none⟩=some (.slice (some ⟨H.q x1,0,none⟩) NB (H.cp x1))),(13,fun w5=>w5.cell? ⟨mb,4,none⟩=some (.int .i64 PG)),(17,fun w5=>PrIn w5 No H R LL∧w5.cell? ⟨H.q x1,RR,none⟩=some vv∧w5.frozen? ⟨H.q x1,RR,none⟩=false),(18,fun w5=>Tn (H.own LL) w w5)] [56,57,58,59,60,61,62,63,64,65,66,67,68,69,70,71,72,90] [[],[0],[1],[2],[],[3,4],[5],[6],[],[],[9],[10],[11],[12],[8,13],[],[7,14],[15,16]] [0,1,2,3,4,5,6,7,8,9,10,11,12,13,14,15,16,17] 18 (by kernel_rfl) ⟨eS _,eS _,eS _,eS _,eS _,eS _,eS _,eS _,eS _,eS _,eS _,eS _,eS _,eS _,eS _,eS _,eS _,fun _ _ _ p b=>p.tn (Tn.of (Q:=fun _=>False) b) (fun _ h=>h.elim),trivial⟩ ⟨⟨.inl (eS _),.inl (eS _),.inl (eS _),.inl (eS _),.inl (eS _),.inl (eS _),.inl (eS _),.inl (eS _),.inl (eS _),.inl (eS _),.inl (eS _),.inl (eS _),.inl (eS _),.inl (eS _),.inl (eS _),.inl (eS _),.inl (eS _),.inr (.inr rfl),trivial⟩,trivial⟩ ⟨fun _ _ p b=>cel b p,fun _ _ p b=>cel b p,fun _ _ p b=>cel b p,fun _ _ p b=>⟨p.1.tn (Tn.of (Q:=fun _=>False) b) (fun _ h=>h.elim),cel b p.2.1,(Below.frozen b (block_lt_of_cell p.2.1)).trans p.2.2⟩,fun _ _ p b=>p.call b,trivial⟩ ⟨⟨.inr (.inl (by kernel_rfl)),.inr (.inl (by kernel_rfl)),.inr (.inl (by kernel_rfl)),.inr (.inr rfl),.inl (fun _ _ p g=>p.put g (.inl (.inr ⟨_,HM.out,rfl⟩))),trivial⟩,trivial⟩ ⟨z1,q1,c4,hst0,htn0,trivial⟩ 73 rfl (by kernel_rfl) (by kernel_rfl) rfl rfl 18 rfl ?q4obl ?q4fin
  case q4obl=>
   refine ⟨?q4o0,?q4o1,?q4o2,?q4o3,?q4o4,?q4o5,?q4o6,?q4o7,?q4o8,?q4o9,?q4o10,?q4o11,?q4o12,?q4o13,?q4o14,?q4o15,?q4o16,?q4o17,trivial⟩
   case q4o0 | q4o4 | q4o8 | q4o9 | q4o15=>
    intro w1 hI;refine t2o (by rfl) ?_;intro K hK;go_simp;refine hK _ _ ⟨rfl,Kept.refl _,?_⟩;show _=_;simp only [gv1];rfl
   case q4o1 | q4o2=>
    intro w1 hI;intro va ha;change _=_ at ha;subst va;refine t2o (by rfl) ?_;intro K hK;simp only [gv2];go_simp;refine hK _ _ ⟨rfl,Kept.refl _,?_⟩;show _=_;simp only [gv1];rfl
   case q4o3=>
    intro w1 hI
    replace hI:(fun w5=>w5.cell? ⟨H.b,1,none⟩=some (.slice (some ⟨bb,oo,none⟩) NL lc)) w1:=hI
    intro v2 h2;change _=_ at h2;subst v2;refine t2o (by rfl) ?_;intro K hK;simp only [gv2]
    have hc:=hI
    go_simp;refine hK _ _ ⟨rfl,Kept.refl _,?_⟩;show _=_;simp only [gv1];rfl
   case q4o5=>
    intro w1 hI;intro va ha;change _=_ at ha;subst va;intro vb hb;change _=_ at hb;subst vb;refine t2o (by rfl) ?_;intro K hK;simp only [gv2];go_simp;refine hK _ _ ⟨rfl,Kept.refl _,?_⟩;show _=_;simp only [gv1];rfl
   case q4o6=>
    intro w1 hI;intro va ha;change _=_ at ha;subst va;refine t2o (by rfl) ?_;intro K hK;simp only [gv2];go_simp;refine hK _ _ ⟨rfl,Kept.refl _,?_⟩;show _=_;simp only [gv1];rfl
   case q4o7=>
    intro w1 hI
    replace hI:(fun w5=>w5.cell? ⟨bb,oo+PN * 2+1,none⟩=some (.slice (some ⟨H.q x1,0,none⟩) NB (H.cp x1))) w1:=hI
    intro v6 h6;change _=_ at h6;subst v6;refine t2o (by rfl) ?_;intro K hK;simp only [gv2]
    have hc:=hI
    go_simp;refine hK _ _ ⟨rfl,Kept.refl _,?_⟩;show _=_;simp only [gv1];rfl
   case q4o10 | q4o11 | q4o12=>
    intro w1 hI;intro va ha;change _=_ at ha;subst va;refine t2o (by rfl) ?_;intro K hK;simp only [gv2];go_simp;refine hK _ _ ⟨rfl,Kept.refl _,?_⟩;show _=_;simp only [gv1];rfl
   case q4o13=>
    intro w1 hI
    replace hI:(fun w5=>w5.cell? ⟨mb,4,none⟩=some (.int .i64 PG)) w1:=hI
    intro v12 h12;change _=_ at h12;subst v12;refine t2o (by rfl) ?_;intro K hK;simp only [gv2]
    have hc:=hI
    go_simp;refine hK _ _ ⟨rfl,Kept.refl _,?_⟩;show _=_;simp only [gv1];rfl
   case q4o14 | q4o16=>
    intro w1 hI;intro va ha;change _=_ at ha;subst va;intro vb hb;change _=_ at hb;subst vb;refine t2o (by rfl) ?_;intro K hK;simp only [gv2];go_simp;refine hK _ _ ⟨rfl,Kept.refl _,?_⟩;show _=_;simp only [gv1];rfl
   case q4o17=>
    intro w1 hI
    replace hI:(fun w5=>PrIn w5 No H R LL∧w5.cell? ⟨H.q x1,RR,none⟩=some vv∧w5.frozen? ⟨H.q x1,RR,none⟩=false) w1:=hI
    intro v15 h15;change _=_ at h15;subst v15;intro v16 h16;change _=_ at h16;subst v16;refine t2o (by rfl) ?_;intro K hK;simp only [gv2]
    obtain ⟨hp3,hc3,hf3⟩:=hI
    go_simp
    refine hK _ _ ⟨rfl,grown_cell _ _ _ _,?_⟩
    exact hp3.stored HSS.out HM.out RR x HX.out
  intro w5 hI
  replace hI:(fun w5=>Tn (H.own LL) w w5) w5:=hI
  intro v0 h0;change _=_ at h0;subst v0;intro v1 h1;change _=_ at h1;subst v1;intro v2 h2;change _=_ at h2;subst v2;intro v3 h3;change _=_ at h3;subst v3;intro v4 h4;change _=_ at h4;subst v4;intro v5 h5;change _=_ at h5;subst v5;intro v6 h6;change _=_ at h6;subst v6;intro v7 h7;change _=_ at h7;subst v7;intro v8 h8;change _=_ at h8;subst v8;intro v9 h9
  change _=_ at h9;subst v9;intro v10 h10;change _=_ at h10;subst v10;intro v11 h11;change _=_ at h11;subst v11;intro v12 h12;change _=_ at h12;subst v12;intro v13 h13;change _=_ at h13;subst v13;intro v14 h14;change _=_ at h14;subst v14;intro v15 h15;change _=_ at h15;subst v15;intro v16 h16;change _=_ at h16;subst v16;intro v17 h17
  simp only [Given,gv2]
  have hPF:=h17
  have hTF:=hI
  clear h17 hI hst0 htn0;go_wp2_with fail;rw [HPB.out]
  go_end0
  refine ⟨rfl,H,hPF.reno (fun _ h=>.inl h) (fun j _ h=>h.elim id (hPF.no j)),rfl,hTF,fun j hj=>?_⟩
  rcases PrH.own_set HSS.out hj with e | e
  ·exact .inl (.inr ⟨_,HM.out,e⟩)
  ·exact .inl e
end Go.Proofs.YtoepnbfifjgpfaaGreat
