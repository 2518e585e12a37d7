/- The document's machine: a process apart (twin). The document's machine: an operation done (list, make, load). The document's machine: an operation done (load, exit). -/
import Derived.Test.YtoepnbfifjgpfaaGreatMu0
import Derived.Test.YtoepnbfifjgpfaaGreatMp2
import Derived.Test.YtoepnbfifjgpfaaGreatMp5
import Derived.Test.YtoepnbfifjgpfaaGreatMp1
import Derived.Test.YtoepnbfifjgpfaaGreatMu9
import Derived.WalkKit
import Derived.ProofKit
import Derived.BigQuiet
import Derived.Deep.QuietTactic
import Derived.Lib.Hide
import Derived.RegionTactic
import Derived.Test.YtoepnbfifjgpfaaGreatMu22
namespace Go.Proofs.YtoepnbfifjgpfaaGreat
set_option maxRecDepth 100000
open Go.RowKit
set_option linter.unusedSimpArgs false
theorem prL_snoc {H:PrH} {M:List (Int × List Int)} {n:Int} {b:List Int} {g c:Nat} (hn:∀ x ∈ M,x.1 ≠ n):prL (H.put n g c) (M ++ [(n,b)])=prL H M ++ [⟨n,g,b.length,c⟩]:=by
 unfold prL
 rw [List.map_append]
 congr 1
 ·refine List.map_congr_left (fun x hx=>?_)
  unfold prE PrH.put
  simp only
  rw [upd_other _ _ (hn x hx),upd_other _ _ (hn x hx)]
 ·simp only [List.map_cons,List.map_nil]
  unfold prE PrH.put
  simp only
  rw [upd_same,upd_same]
/-- A twin under way. -/
structure TwS (w0 w:World) (xb:Nat) (H:PrH) (R:List Rg) (M:List (Int × List Int)) (ra:Option Addr) (rn rc:Nat) (la:Option Addr) (ln lc:Nat):Prop where
 row:w.heap[xb]?=some (.cells #[.slice ra rn rc,.slice la ln lc] 80 (0,0))
 rg:OwnsS Rg.cells 3 110 w w0.heap.size (.slice ra rn rc) R
 ls:OwnsS PgE.cells 2 84 w w0.heap.size (.slice la ln lc) (prL H M)
 pg:∀ x ∈ M,Owns .u8 5 w w0.heap.size (.slice (some ⟨H.q x.1,0,none⟩) x.2.length (H.cp x.1)) x.2∧0 < x.2.length
 inj:∀ x ∈ M,∀ y ∈ M,H.q x.1=H.q y.1→x.1=y.1
 hb:H.b=xb
 new:w0.heap.size≤xb
 bel:Below w0.heap.size w0 w
/-- Behind the append, ahead of the store. -/
structure TwA (w0 w:World) (xb:Nat) (H:PrH) (R:List Rg) (M:List (Int × List Int)) (ra:Option Addr) (rn rc:Nat) (N:Int) (b:List Int) (g c:Nat) (v:Value):Prop where
 row:∃ old,w.heap[xb]?=some (.cells #[.slice ra rn rc,old] 80 (0,0))
 rg:OwnsS Rg.cells 3 110 w w0.heap.size (.slice ra rn rc) R
 ls:OwnsS PgE.cells 2 84 w w0.heap.size v (prL H M ++ [⟨N,g,b.length,c⟩])
 pg:∀ x ∈ M,Owns .u8 5 w w0.heap.size (.slice (some ⟨H.q x.1,0,none⟩) x.2.length (H.cp x.1)) x.2∧0 < x.2.length
 nw:Owns .u8 5 w w0.heap.size (.slice (some ⟨g,0,none⟩) b.length c) b
 bl:0 < b.length
 ap:∀ x ∈ M,H.q x.1 ≠ g
 nm:∀ x ∈ M,x.1 ≠ N
 inj:∀ x ∈ M,∀ y ∈ M,H.q x.1=H.q y.1→x.1=y.1
 hb:H.b=xb
 new:w0.heap.size≤xb
 bel:Below w0.heap.size w0 w
section
variable {w0 w w':World} {xb:Nat} {H:PrH} {R:List Rg} {M:List (Int × List Int)} {ra:Option Addr} {rn rc:Nat} {la:Option Addr} {ln lc:Nat} {N:Int} {b:List Int} {g c:Nat} {v:Value}
theorem TwS.call (s:TwS w0 w xb H R M ra rn rc la ln lc) (k:Below w.heap.size w w'):TwS w0 w' xb H R M ra rn rc la ln lc:=
 ⟨row_keep s.row k,s.rg.below k,s.ls.below k,fun x hx=>⟨(s.pg x hx).1.below k,(s.pg x hx).2⟩,s.inj,s.hb,s.new,Below.call s.bel k⟩
theorem TwA.call (s:TwA w0 w xb H R M ra rn rc N b g c v) (k:Below w.heap.size w w'):TwA w0 w' xb H R M ra rn rc N b g c v:=
 ⟨by obtain ⟨old,h⟩:=s.row;exact ⟨old,row_keep h k⟩,s.rg.below k,s.ls.below k,fun x hx=>⟨(s.pg x hx).1.below k,(s.pg x hx).2⟩,s.nw.below k,s.bl,s.ap,s.nm,s.inj,s.hb,s.new,Below.call s.bel k⟩
theorem TwS.app (s:TwS w0 w xb H R M ra rn rc la ln lc) (hls:OwnsS PgE.cells 2 84 w' w0.heap.size v (prL H M ++ [⟨N,g,b.length,c⟩])) (hg:Grows w (.slice la ln lc) w' v)
  (nw:Owns .u8 5 w w0.heap.size (.slice (some ⟨g,0,none⟩) b.length c) b) (bl:0 < b.length) (ap:∀ x ∈ M,H.q x.1 ≠ g) (nm:∀ x ∈ M,x.1 ≠ N):TwA w0 w' xb H R M ra rn rc N b g c v:=by
 have hk:∀ y,room (.slice la ln lc)=some y→∃ cur,w.heap[y]?=some (.cells cur 84 (0,0)):=fun y hy=>(s.ls.kind y hy).2
 exact ⟨⟨_,row_keepK s.row hg.1 hk pr_kinds⟩,s.rg.keepK hg.1 hk rg_kinds,hls,fun x hx=>⟨(s.pg x hx).1.keepK (s.pg x hx).2 hg.1 hk u8_kinds,(s.pg x hx).2⟩,nw.keepK bl hg.1 hk u8_kinds,bl,ap,nm,s.inj,s.hb,s.new,s.bel.trans (hg.below s.bel.size (fun y hy=>(s.ls.kind y hy).1))⟩
theorem TwA.put (s:TwA w0 w xb H R M ra rn rc N b g c (.slice la ln lc)):TwS w0 (w.setCell ⟨xb,1,none⟩ (.slice la ln lc)) xb (H.put N g c) R (M ++ [(N,b)]) ra rn rc la ln lc:=by
 obtain ⟨old,hrow⟩:=s.row
 have hg:w.grownBy (w.setCell ⟨xb,1,none⟩ (.slice la ln lc)) (some xb):=cell_grown1 w xb 1 _
 have hk:∀ y,some xb=some y→∃ cur,w.heap[y]?=some (.cells cur 80 (0,0)):=fun y hy=>by injection hy with hy;rw [← hy];exact ⟨_,hrow⟩
 have q1:(H.put N g c).q N=g:=upd_same _ _ _
 have c1:(H.put N g c).cp N=c:=upd_same _ _ _
 have q2:∀ x ∈ M,(H.put N g c).q x.1=H.q x.1:=fun x hx=>upd_other _ _ (s.nm x hx)
 have c2:∀ x ∈ M,(H.put N g c).cp x.1=H.cp x.1:=fun x hx=>upd_other _ _ (s.nm x hx)
 have hm:∀ x ∈ M ++ [(N,b)],x ∈ M∨x=(N,b):=fun x hx=>by simpa using hx
 refine ⟨?_,s.rg.keepK hg hk rgp_kinds,by rw [prL_snoc s.nm];exact s.ls.keepK hg hk pgp_kinds,fun x hx=>?_,fun x hx y hy e=>?_,s.hb,s.new,Below.grown s.bel hg s.bel.size (fun y hy=>by injection hy with hy;rw [← hy];exact s.new)⟩
 ·rw [heap_setCell_same w xb 1 _ _ _ hrow];rfl
 ·rcases hm x hx with e | e
  ·rw [q2 x e,c2 x e]
   exact ⟨(s.pg x e).1.keepK (s.pg x e).2 hg hk u8p_kinds,(s.pg x e).2⟩
  ·rw [e]
   show Owns _ _ _ _ (.slice (some ⟨(H.put N g c).q N,0,none⟩) b.length ((H.put N g c).cp N)) b∧_
   rw [q1,c1]
   exact ⟨s.nw.keepK s.bl hg hk u8p_kinds,s.bl⟩
 ·rcases hm x hx with e1 | e1 <;> rcases hm y hy with e2 | e2
  ·rw [q2 x e1,q2 y e2] at e;exact s.inj x e1 y e2 e
  ·rw [e2,q2 x e1] at e;rw [show (H.put N g c).q (N,b).1=g from q1] at e;exact absurd e (s.ap x e1)
  ·rw [e1,q2 y e2] at e;rw [show (H.put N g c).q (N,b).1=g from q1] at e;exact absurd e.symm (s.ap y e2)
  ·rw [e1,e2]
theorem TwS.blk (s:TwS w0 w xb H R M ra rn rc la ln lc):∀ k,H.own M k→w0.heap.size≤k∧k < w.heap.size:=by
 rintro k (e | ⟨x,hx,e⟩)
 ·rw [e,s.hb];exact ⟨s.new,(Array.getElem?_eq_some_iff.1 s.row).1⟩
 ·obtain ⟨h1,h2⟩:=s.pg x hx
  obtain ⟨_,hh⟩:=h1.kind (Nat.lt_of_lt_of_le h2 h1.rd.cap)
  rw [e]
  exact ⟨h1.blk _ rfl h2,(Array.getElem?_eq_some_iff.1 hh).1⟩
theorem SlV.of_kind {α:Type} {m:α→List Value} {k:Nat} {e:TypeId} {w:World} {base n c:Nat} {a:Option Addr} {L:List α} {No:Nat→Prop} (C:Cellular m k) (h:OwnsS m k e w base (.slice a n c) L) (hno:∀ y,No y→y < base∨∃ cur e',w.heap[y]?=some (.cells cur e' (0,0))∧e ≠ e'):SlV m k w No a n c L:=by
 have hrd:=h.rd C
 refine ⟨hrd,fun x hx h0 hk=>?_⟩
 have hl:0 < L.length:=by rw [hrd.len];exact h0
 obtain ⟨g,c2,e1,hgb,h2⟩:=h.row hl
 rw [hx] at e1
 injection e1 with e1
 rcases hno _ hk with h3 | ⟨cur,e',h1,hne⟩
 ·rw [e1] at h3
  replace h3:g < base:=h3
  omega
 ·rw [e1] at h1
  exact kinds_ne h2 h1 hne rfl
theorem TwS.prIn (s:TwS w0 w xb H R M ra rn rc la ln lc) (hln:ln=M.length):PrIn w (fun k=>k < w0.heap.size∨H.own M k) H R M:=by
 subst hln
 have hno:∀ y,H.own M y→∃ cur e',w.heap[y]?=some (.cells cur e' (0,0))∧(e'=80∨e'=5):=by
  rintro y (e | ⟨x,hx,e⟩)
  ·rw [e,s.hb];exact ⟨_,_,s.row,.inl rfl⟩
  ·obtain ⟨h1,h2⟩:=s.pg x hx
   obtain ⟨cur,hh⟩:=h1.kind (Nat.lt_of_lt_of_le h2 h1.rd.cap)
   rw [e]
   exact ⟨_,_,hh,.inr rfl⟩
 refine ⟨⟨ra,rn,rc,la,lc,by rw [s.hb];exact s.row,SlV.of_kind rgC s.rg (fun y hy=>?_),SlV.of_kind pgEC s.ls (fun y hy=>?_)⟩,fun x hx=>(s.pg x hx).1.mono (Nat.zero_le _),s.inj,fun x hx e=>?_,fun k hk=>.inr hk⟩
 ·rcases hy with hy | hy
  ·exact .inl hy
  ·obtain ⟨cur,e',h1,h2⟩:=hno y hy
   exact .inr ⟨cur,e',h1,by rcases h2 with h2 | h2 <;> rw [h2] <;> decide⟩
 ·rcases hy with hy | hy
  ·exact .inl hy
  ·obtain ⟨cur,e',h1,h2⟩:=hno y hy
   exact .inr ⟨cur,e',h1,by rcases h2 with h2 | h2 <;> rw [h2] <;> decide⟩
 ·obtain ⟨h1,h2⟩:=s.pg x hx
  obtain ⟨cur,hh⟩:=h1.kind (Nat.lt_of_lt_of_le h2 h1.rd.cap)
  rw [e,s.hb] at hh
  exact kinds_ne hh s.row (by decide) rfl
end

theorem own_some {k:IntKind} {e:TypeId} {w:World} {base n:Nat} {v:Value} {l:List Int} (h:Owns k e w base v l) (hl:l.length=n) (hn:0 < n):∃ g c,v = .slice (some ⟨g,0,none⟩) n c:=by
 subst hl
 obtain ⟨a,c,rfl⟩:=h.shape
 have hrd:=h.rd
 obtain ⟨_,h⟩:=h
 rcases h with ⟨h1,_⟩ | ⟨_,⟨_,hz⟩ | ⟨g,cap,cur,hv,_⟩⟩
 ·rw [h1] at hn;simp at hn
 ·simp at hz;rw [hz] at hn;simp at hn
 ·injection hv with e1 e2 e3
  exact ⟨g,c,by rw [e1]⟩
theorem srt_take {L:List (Int × List Int)} (hs:SrtP L) {k:Nat} {y:Int × List Int} (hy:L[k]?=some y):∀ x ∈ L.take k,x.1 < y.1:=fun x hx=>by
 obtain ⟨i,hi,rfl⟩:=List.getElem_of_mem hx
 rw [List.length_take] at hi;rw [List.getElem_take]
 obtain ⟨hk,rfl⟩:=List.getElem?_eq_some_iff.1 hy
 exact List.pairwise_iff_getElem.1 hs i k (by omega) hk (by omega)
theorem take_snoc {α:Type} {L:List α} {k:Nat} {y:α} (hy:L[k]?=some y):L.take (k+1)=L.take k ++ [y]:=by
 rw [List.take_add_one,hy];rfl
set_option maxHeartbeats 4000000 in
theorem rtwin_raw {w:World} {No:Nat→Prop} {H:PrH} {R:List Rg} {LL:List (Int × List Int)} (p:PrIn w No H R LL) (hs:SrtP LL) (hl:LL.length≤100000) (hrl:R.length≤1000) (hpl:∀ x ∈ LL,0 < x.2.length∧x.2.length≤4096) :
  Calls Tryz.prog 26 #[.pointer (some ⟨H.b,0,none⟩)] w fun e w'=>∃ H':PrH,e = .returned (.pointer (some ⟨H'.b,0,none⟩))∧∃ xa rn rc la lc,TwS w w' H'.b H' R LL xa rn rc la LL.length lc:=by
 obtain ⟨ra,rn,rc,la0,lc0,z0,z1,h2,h3⟩:=p.cell
 have HP:=Lib.hid p;have HS:=Lib.hid hs;have HLL:=Lib.hid hl;have HPL:=Lib.hid hpl;have HR2:=Lib.hid h2.1;have HRL:=Lib.hid hrl
 have hrn:=h2.1.len
 have HRN:=Lib.hid hrn
 obtain ⟨NL,hNL⟩:∃ y,LL.length=y:=⟨_,rfl⟩
 have HL3:Hid (SlV PgE.cells 2 w No la0 NL lc0 (prL H LL)):=by show SlV _ _ _ _ _ _ _ _;rw [← hNL];exact h3
 rw [hNL] at z1 hl;have HNL:=Lib.hid hNL;have HZ1:=Lib.hid z1
 have hHb:H.b < w.heap.size:=block_lt_of_cell z0
 clear p hs hpl h2 h3 hrl hrn hNL
 go_enter Tryz.func26,Tryz.ntmps26
 go_wp2_with (at_builtin;refine appS_all rgC Tryz.underlying77 rgI rfl (by decide) rfl (.tmp 5) (.tmp 9) rfl _ w.heap.size _ [] rfl (OwnsS.empty _ _ _ _ _ _ _) ra rn rc R rfl (HR2.out.alloc _) (by have h1:=HRL.out;have h2:=HRN.out;simp;omega) (by simp) ?_;intro x1 w1 ho1 hg1;rw [List.nil_append] at ho1;obtain ⟨xa,xc,rfl⟩:=ho1.shapeN rn HRN.out;have HO1:=Lib.hid ho1;have HG1:=Lib.hid hg1;clear ho1 hg1)
 have hb1:Below w.heap.size w w1:=HG1.out.fromEmpty
 have HB1:=Lib.hid hb1
 obtain ⟨xb,hxb⟩:∃ y,w1.heap.size=y:=⟨_,rfl⟩
 have hst:TwS w (w1.alloc (.cells #[.slice xa rn xc,.slice none 0 0] 80)) xb ⟨xb,fun _=>0,fun _=>0⟩ R (LL.take 0) xa rn xc none 0 0:=by
  refine ⟨by rw [← hxb];exact heap_alloc_new _ _,HO1.out.alloc _,OwnsS.nil _ _ _ _ _,fun x hx=>(by simp at hx),fun x hx=>(by simp at hx),rfl,by rw [← hxb];exact hb1.size,Below.more hb1 _⟩
 obtain ⟨w2,hw2⟩:∃ y,w1.alloc (.cells #[.slice xa rn xc,.slice none 0 0] 80)=y:=⟨_,rfl⟩
 rw [hw2] at hst;rw [hw2,hxb];have HST:=Lib.hid hst;clear hb1 hst hw2 hxb
 go_loopw [4] (fun i wr=>∃ k:Nat,k≤NL∧i = .int .i64 k∧Hid (∃ HK la lc,TwS w wr xb HK R (LL.take k) xa rn xc la k lc)) (fun i _=>NL - (intOf i).toNat)
 case atStart=>exact ⟨0,by omega,rfl,_,_,_,HST.out⟩
 case round=>
  obtain ⟨k,hk,rfl,hh⟩:=hrel
  obtain ⟨HK,la,lc,s⟩:=hh.out
  have S:=Lib.hid s
  have hbel:=s.bel
  have hz1:=cel hbel HZ1.out
  clear hh s
  by_cases hkn:k < NL
  ·obtain ⟨x,hx⟩:∃ x,LL[k]?=some x:=⟨_,List.getElem?_eq_getElem (by rw [HNL.out];exact hkn)⟩
   obtain ⟨N,B⟩:=x
   have hmem:=List.mem_of_getElem? hx
   have HTK:=Lib.hid (take_snoc hx)
   have HNM:Hid (∀ x ∈ LL.take k,x.1 ≠ N):=fun x hx2=>by have:=srt_take HS.out hx x hx2;show x.1 ≠ N;omega
   obtain ⟨bb,oo,ha,q0,q1⟩:=pge_at HL3.out hx
   have hown:=HP.out.pg _ hmem
   obtain ⟨hl0,hl1⟩:=HPL.out _ hmem
   obtain ⟨NB,hNB⟩:∃ y,B.length=y:=⟨_,rfl⟩
   replace q1:w.cell? ⟨bb,oo+k * 2+1,none⟩=some (.slice (some ⟨H.q N,0,none⟩) B.length (H.cp N)):=q1
   replace q0:w.cell? ⟨bb,oo+k * 2,none⟩=some (.int .i64 N):=q0
   replace hown:Owns .u8 5 w 0 (.slice (some ⟨H.q N,0,none⟩) B.length (H.cp N)) B:=hown
   replace hl0:0 < B.length:=hl0
   replace hl1:B.length≤4096:=hl1
   rw [hNB] at q1 hown hl0 hl1
   obtain ⟨qb,hqb⟩:∃ y,H.q N=y:=⟨_,rfl⟩
   obtain ⟨qc,hqc⟩:∃ y,H.cp N=y:=⟨_,rfl⟩
   rw [hqb,hqc] at q1 hown
   have HRD:Hid (RdAt .u8 wr (some ⟨qb,0,none⟩) NB qc B):=hown.rd.below hbel
   have HNB:=Lib.hid hNB;have HNB0:=Lib.hid hl0;have HSZ:=Lib.hid hbel.size
   have HQL:Hid (∀ x ∈ LL.take k,HK.q x.1 < wr.heap.size):=fun x hx2=>(S.out.blk _ (.inr ⟨x,hx2,rfl⟩)).2
   have HC0:=Lib.hid (cel hbel q0)
   have HC1:=Lib.hid (cel hbel q1)
   subst ha;have HC2:=Lib.hid hz1;clear hx hmem hown hl0 hNB hqb hqc q0 q1 z1;go_wp2_with fail
   refine' reg_kill [(25,13),(25,22),(25,23),(25,24),(28,13),(28,22),(28,23),(28,24),(28,25)] [eqV _,eqV _,eqV _,eqV _,eqV _,eqV _,eqV _,eqV _,eqV _,eqV _,eqV _,eqV _,eqV _,(fun v w5=>∃ g,v=Value.slice (some ⟨g,0,none⟩) 0 0),eqV _,eqV _,eqV _,eqV _,eqV _,eqV _,eqV _,eqV _,(fun v w5=>∃ g c,v=Value.slice (some ⟨g,0,none⟩) NB c∧wr.heap.size≤g∧Owns .u8 5 w5 wr.heap.size (.slice (some ⟨g,0,none⟩) NB c) B),(fun v w5=>∃ g c,v=Value.agg #[.int .i64 N,.slice (some ⟨g,0,none⟩) NB c]∧wr.heap.size≤g∧Owns .u8 5 w5 wr.heap.size (.slice (some ⟨g,0,none⟩) NB c) B),(fun v w5=>∃ s g c,v=Value.slice (some ⟨s,0,none⟩) 1 1∧w5.heap[s]?=some (.cells #[.int .i64 N,.slice (some ⟨g,0,none⟩) NB c] 84 (0,0))∧wr.heap.size≤g∧Owns .u8 5 w5 wr.heap.size (.slice (some ⟨g,0,none⟩) NB c) B),(fun v w5=>∃ g c,TwA w w5 xb HK R (LL.take k) xa rn xc N B g c v),eqV _,eqV _,(fun _ w5=>∃ g c la' lc',TwS w w5 xb (HK.put N g c) R (LL.take k ++ [(N,B)]) xa rn xc la' (k+1) lc')] [(25,fun _ _=>True),(28,fun _ _=>True)] [(4,fun w5=>TwS w w5 xb HK R (LL.take k) xa rn xc la k lc),(8,fun w5=>Below wr.heap.size wr w5),(12,fun w5=>Below wr.heap.size wr w5),(17,fun w5=>Below wr.heap.size wr w5),(21,fun w5=>Below wr.heap.size wr w5),(22,fun w5=>Below wr.heap.size wr w5),(25,fun w5=>TwS w w5 xb HK R (LL.take k) xa rn xc la k lc)] [22,23,24,25,26,27,28,29,30,31,32,33,34,35,36,37,38,39,40,41,42,43,44,45,46,47,48,49,79] [[],[],[1],[2],[3],[],[5],[6],[7],[],[8,9],[10],[11],[],[],[14],[15],[16],[],[17,18],[19],[20],[13,21],[12,22],[23],[4,24],[0],[26],[25,27]] [0,1,2,3,4,5,6,7,8,9,10,11,12,13,14,15,16,17,18,19,20,21,22,23,24,25,26,27,28] 29 (by kernel_rfl) (by kernel_rfl) ⟨eS _,eS _,eS _,eS _,eS _,eS _,eS _,eS _,eS _,eS _,eS _,eS _,eS _,fun _ _ _ p _=>p,eS _,eS _,eS _,eS _,eS _,eS _,eS _,eS _,fun _ _ _ p b=>by obtain ⟨g,c,e,h1,h2⟩:=p;exact ⟨g,c,e,h1,h2.below b⟩,fun _ _ _ p b=>by obtain ⟨g,c,e,h1,h2⟩:=p;exact ⟨g,c,e,h1,h2.below b⟩,fun _ _ _ p b=>by obtain ⟨s,g,c,e,h0,h1,h2⟩:=p;exact ⟨s,g,c,e,row_keep h0 b,h1,h2.below b⟩,fun _ _ _ p b=>by obtain ⟨g,c,h⟩:=p;exact ⟨g,c,h.call b⟩,eS _,eS _,fun _ _ _ p b=>by obtain ⟨g,c,la',lc',h⟩:=p;exact ⟨g,c,la',lc',h.call b⟩,trivial⟩ ⟨⟨.inl (eS _),.inl (eS _),.inl (eS _),.inl (eS _),.inl (eS _),.inl (eS _),.inl (eS _),.inl (eS _),.inl (eS _),.inl (eS _),.inl (eS _),.inl (eS _),.inl (eS _),.inr (.inr (.inr (by kernel_rfl))),.inl (eS _),.inl (eS _),.inl (eS _),.inl (eS _),.inl (eS _),.inl (eS _),.inl (eS _),.inl (eS _),.inr (.inr (.inr (by kernel_rfl))),.inr (.inr (.inr (by kernel_rfl))),.inr (.inr (.inr (by kernel_rfl))),.inr (.inr (.inl rfl)),.inl (eS _),.inl (eS _),.inr (.inl (by kernel_rfl)),trivial⟩,⟨.inl (eS _),.inl (eS _),.inl (eS _),.inl (eS _),.inl (eS _),.inl (eS _),.inl (eS _),.inl (eS _),.inl (eS _),.inl (eS _),.inl (eS _),.inl (eS _),.inl (eS _),.inr (.inr (.inr (by kernel_rfl))),.inl (eS _),.inl (eS _),.inl (eS _),.inl (eS _),.inl (eS _),.inl (eS _),.inl (eS _),.inl (eS _),.inr (.inr (.inr (by kernel_rfl))),.inr (.inr (.inr (by kernel_rfl))),.inr (.inr (.inr (by kernel_rfl))),.inr (.inr (.inr (by kernel_rfl))),.inl (eS _),.inl (eS _),.inr (.inr (.inl rfl)),trivial⟩,trivial⟩ ⟨fun _ _ p b=>TwS.call p b,fun _ _ p b=>p.trans (b.mono p.size),fun _ _ p b=>p.trans (b.mono p.size),fun _ _ p b=>p.trans (b.mono p.size),fun _ _ p b=>p.trans (b.mono p.size),fun _ _ p b=>p.trans (b.mono p.size),fun _ _ p b=>TwS.call p b,trivial⟩ ⟨⟨.inr (.inl (by kernel_rfl)),.inr (.inl (by kernel_rfl)),.inr (.inl (by kernel_rfl)),.inr (.inl (by kernel_rfl)),.inr (.inl (by kernel_rfl)),.inr (.inl (by kernel_rfl)),.inr (.inr rfl),trivial⟩,⟨.inr (.inl (by kernel_rfl)),.inr (.inl (by kernel_rfl)),.inr (.inl (by kernel_rfl)),.inr (.inl (by kernel_rfl)),.inr (.inl (by kernel_rfl)),.inr (.inl (by kernel_rfl)),.inr (.inl (by kernel_rfl)),trivial⟩,trivial⟩ ⟨(S.out.call (Below.refl wr.heap.size wr).drew),(Below.refl wr.heap.size wr).drew,(Below.refl wr.heap.size wr).drew,(Below.refl wr.heap.size wr).drew,(Below.refl wr.heap.size wr).drew,(Below.refl wr.heap.size wr).drew,(S.out.call (Below.refl wr.heap.size wr).drew),trivial⟩ 51 rfl (by kernel_rfl) (by kernel_rfl) rfl rfl 29 rfl ?q1obl ?q1fin
   case q1obl=>
    refine ⟨?q1o0,?q1o1,?q1o2,?q1o3,?q1o4,?q1o5,?q1o6,?q1o7,?q1o8,?q1o9,?q1o10,?q1o11,?q1o12,?q1o13,?q1o14,?q1o15,?q1o16,?q1o17,?q1o18,?q1o19,?q1o20,?q1o21,?q1o22,?q1o23,?q1o24,?q1o25,?q1o26,?q1o27,?q1o28,trivial⟩
    case q1o0 | q1o1 | q1o5 | q1o9 | q1o14 | q1o18=>
     intro w1 hI;refine t2o (by rfl) ?_;intro K hK;go_simp;refine hK _ _ ⟨rfl,Kept.refl _,?_⟩;show _=_;simp only [gv1];rfl
    case q1o2 | q1o3=>
     intro w1 hI;intro va ha;change _=_ at ha;subst va;refine t2o (by rfl) ?_;intro K hK;simp only [gv2];go_simp;refine hK _ _ ⟨rfl,Kept.refl _,?_⟩;show _=_;simp only [gv1];rfl
    case q1o4=>
     intro w1 hI
     replace hI:(fun w5=>TwS w w5 xb HK R (LL.take k) xa rn xc la k lc) w1:=hI
     intro v3 h3;change _=_ at h3;subst v3;refine t2o (by rfl) ?_;intro K hK;simp only [gv2]
     have hc:=cell_of_row w1 xb 1 _ _ _ hI.row
     go_simp;refine hK _ _ ⟨rfl,Kept.refl _,?_⟩;show _=_;simp only [gv1];rfl
    case q1o6 | q1o7=>
     intro w1 hI;intro va ha;change _=_ at ha;subst va;refine t2o (by rfl) ?_;intro K hK;simp only [gv2];go_simp;refine hK _ _ ⟨rfl,Kept.refl _,?_⟩;show _=_;simp only [gv1];rfl
    case q1o8=>
     intro w1 hI
     replace hI:(fun w5=>Below wr.heap.size wr w5) w1:=hI
     intro v7 h7;change _=_ at h7;subst v7;refine t2o (by rfl) ?_;intro K hK;simp only [gv2]
     have hc:=cel hI HC2.out
     go_simp;refine hK _ _ ⟨rfl,Kept.refl _,?_⟩;show _=_;simp only [gv1];rfl
    case q1o10=>
     intro w1 hI;intro va ha;change _=_ at ha;subst va;intro vb hb;change _=_ at hb;subst vb;refine t2o (by rfl) ?_;intro K hK;simp only [gv2];go_simp;refine hK _ _ ⟨rfl,Kept.refl _,?_⟩;show _=_;simp only [gv1];rfl
    case q1o11=>
     intro w1 hI;intro va ha;change _=_ at ha;subst va;refine t2o (by rfl) ?_;intro K hK;simp only [gv2];go_simp;refine hK _ _ ⟨rfl,Kept.refl _,?_⟩;show _=_;simp only [gv1];rfl
    case q1o12=>
     intro w1 hI
     replace hI:(fun w5=>Below wr.heap.size wr w5) w1:=hI
     intro v11 h11;change _=_ at h11;subst v11;refine t2o (by rfl) ?_;intro K hK;simp only [gv2]
     have hc:=cel hI HC0.out
     go_simp;refine hK _ _ ⟨rfl,Kept.refl _,?_⟩;show _=_;simp only [gv1];rfl
    case q1o13=>
     intro w1 hI;refine t2o (by rfl) ?_;intro K hK;go_simp
     refine hK _ _ ⟨rfl,below_a _ _,?_⟩
     show ∃ g,_=Value.slice (some ⟨g,0,none⟩) 0 0
     simp only [gv1]
     exact ⟨_,rfl⟩
    case q1o15 | q1o16=>
     intro w1 hI;intro va ha;change _=_ at ha;subst va;refine t2o (by rfl) ?_;intro K hK;simp only [gv2];go_simp;refine hK _ _ ⟨rfl,Kept.refl _,?_⟩;show _=_;simp only [gv1];rfl
    case q1o17=>
     intro w1 hI
     replace hI:(fun w5=>Below wr.heap.size wr w5) w1:=hI
     intro v16 h16;change _=_ at h16;subst v16;refine t2o (by rfl) ?_;intro K hK;simp only [gv2]
     have hc:=cel hI HC2.out
     go_simp;refine hK _ _ ⟨rfl,Kept.refl _,?_⟩;show _=_;simp only [gv1];rfl
    case q1o19=>
     intro w1 hI;intro va ha;change _=_ at ha;subst va;intro vb hb;change _=_ at hb;subst vb;refine t2o (by rfl) ?_;intro K hK;simp only [gv2];go_simp;refine hK _ _ ⟨rfl,Kept.refl _,?_⟩;show _=_;simp only [gv1];rfl
    case q1o20=>
     intro w1 hI;intro va ha;change _=_ at ha;subst va;refine t2o (by rfl) ?_;intro K hK;simp only [gv2];go_simp;refine hK _ _ ⟨rfl,Kept.refl _,?_⟩;show _=_;simp only [gv1];rfl
    case q1o21=>
     intro w1 hI
     replace hI:(fun w5=>Below wr.heap.size wr w5) w1:=hI
     intro v20 h20;change _=_ at h20;subst v20;refine t2o (by rfl) ?_;intro K hK;simp only [gv2]
     have hc:=cel hI HC1.out
     go_simp;refine hK _ _ ⟨rfl,Kept.refl _,?_⟩;show _=_;simp only [gv1];rfl
    case q1o22=>
     intro w1 hI
     replace hI:(fun w5=>Below wr.heap.size wr w5) w1:=hI
     intro v13 h13
     obtain ⟨g13,rfl⟩:=h13
     intro v21 h21;change _=_ at h21;subst v21;refine t2o (by rfl) ?_;intro K hK;simp only [gv2]
     refine wp_app_all 44 rfl u8T u8I (by decide) (.tmp 35) (.tmp 43) rfl w1 wr.heap.size (.slice (some ⟨g13,0,none⟩) 0 0) [] rfl (Owns.empty _ _ _ _ _ _) (some ⟨qb,0,none⟩) NB qc B rfl (HRD.out.below hI) (by simp <;> omega) hI.size ?_
     intro v9 w9 ho9 hg9
     refine hK _ _ ⟨rfl,hg9.fromNone,?_⟩
     rw [List.nil_append] at ho9
     obtain ⟨g,c,rfl⟩:=own_some ho9 HNB.out HNB0.out
     show ∃ g c,_=Value.slice (some ⟨g,0,none⟩) NB c∧_
     simp only [gv1]
     exact ⟨g,c,rfl,ho9.blk _ rfl HNB0.out,ho9⟩
    case q1o23=>
     intro w1 hI;intro v12 h12;change _=_ at h12;subst v12;intro v22 h22
     obtain ⟨g22,c22,rfl,l22,p22⟩:=h22
     refine t2o (by rfl) ?_;intro K hK;simp only [gv2];go_simp;refine hK _ _ ⟨rfl,Kept.refl _,?_⟩
     exact ⟨g22,c22,rfl,l22,p22⟩
    case q1o24=>
     intro w1 hI;intro v23 h23
     obtain ⟨g23,c23,rfl,l23,p23⟩:=h23
     refine t2o (by rfl) ?_;intro K hK;simp only [gv2];go_simp
     refine hK _ _ ⟨rfl,below_a _ _,?_⟩
     exact ⟨_,g23,c23,rfl,heap_alloc_new _ _,l23,p23.below (below_a _ _)⟩
    case q1o25=>
     intro w1 hI
     replace hI:(fun w5=>TwS w w5 xb HK R (LL.take k) xa rn xc la k lc) w1:=hI
     intro v4 h4;change _=_ at h4;subst v4;intro v24 h24
     obtain ⟨s24,g24,c24,rfl,r24,l24,p24⟩:=h24
     refine t2o (by rfl) ?_;intro K hK;simp only [gv2]
     refine wp_appS_one pgEC pgT pgEI rfl (by decide) 47 rfl (.tmp 26) (.tmp 46) rfl w.heap.size (.slice la k lc) _ rfl hI.ls s24 1 ⟨N,g24,NB,c24⟩ rfl r24 (by rw [prL_len,List.length_take];have:=HLL.out;omega) hI.bel.size ?_
     intro v9 w9 ho9 hg9
     have hap:∀ x ∈ LL.take k,HK.q x.1 ≠ g24:=fun x hx e=>by have h1:=HQL.out x hx;omega
     refine hK _ _ ⟨rfl,trivial,?_⟩
     show ∃ g c,TwA _ _ _ _ _ _ _ _ _ _ _ _ _ _
     simp only [gv1]
     refine ⟨g24,c24,hI.app (N:=N) (b:=B) (g:=g24) (c:=c24) (by rw [HNB.out];exact ho9) hg9 (by rw [HNB.out];exact p24.mono HSZ.out) (by rw [HNB.out];exact HNB0.out) hap HNM.out⟩
    case q1o26 | q1o27=>
     intro w1 hI;intro va ha;change _=_ at ha;subst va;refine t2o (by rfl) ?_;intro K hK;simp only [gv2];go_simp;refine hK _ _ ⟨rfl,Kept.refl _,?_⟩;show _=_;simp only [gv1];rfl
    case q1o28=>
     intro w1 hI;intro v25 h25
     obtain ⟨g25,c25,s25⟩:=h25
     intro v27 h27;change _=_ at h27;subst v27;refine t2o (by rfl) ?_;intro K hK;simp only [gv2]
     obtain ⟨a9,c9,rfl⟩:=s25.ls.shapeN (k+1) (by rw [List.length_append,prL_len,List.length_take,HNL.out];simp;omega)
     obtain ⟨old,hr⟩:=s25.row
     have hc:=cell_of_row w1 xb 1 _ _ _ hr
     have hf:=frozen_of_row w1 xb 1 _ _ hr
     go_simp
     refine hK _ _ ⟨rfl,trivial,?_⟩
     exact ⟨g25,c25,a9,c9,s25.put⟩
   intro w5 hI;intro v0 h0;replace h0:=h0 (by kernel_rfl);change _=_ at h0;subst v0;intro v1 h1;replace h1:=h1 (by kernel_rfl);change _=_ at h1;subst v1;intro v2 h2;replace h2:=h2 (by kernel_rfl);change _=_ at h2;subst v2;intro v3 h3;replace h3:=h3 (by kernel_rfl);change _=_ at h3;subst v3;intro v4 h4;replace h4:=h4 (by kernel_rfl);change _=_ at h4;subst v4;intro v5 h5
   replace h5:=h5 (by kernel_rfl);change _=_ at h5;subst v5;intro v6 h6;replace h6:=h6 (by kernel_rfl);change _=_ at h6;subst v6;intro v7 h7;replace h7:=h7 (by kernel_rfl);change _=_ at h7;subst v7;intro v8 h8;replace h8:=h8 (by kernel_rfl);change _=_ at h8;subst v8;intro v9 h9;replace h9:=h9 (by kernel_rfl);change _=_ at h9;subst v9;intro v10 h10;replace h10:=h10 (by kernel_rfl)
   change _=_ at h10;subst v10;intro v11 h11;replace h11:=h11 (by kernel_rfl);change _=_ at h11;subst v11;intro v12 h12;replace h12:=h12 (by kernel_rfl);change _=_ at h12;subst v12;intro v13 _;intro v14 h14;replace h14:=h14 (by kernel_rfl);change _=_ at h14;subst v14;intro v15 h15;replace h15:=h15 (by kernel_rfl);change _=_ at h15;subst v15;intro v16 h16;replace h16:=h16 (by kernel_rfl)
   change _=_ at h16;subst v16;intro v17 h17;replace h17:=h17 (by kernel_rfl);change _=_ at h17;subst v17;intro v18 h18;replace h18:=h18 (by kernel_rfl);change _=_ at h18;subst v18;intro v19 h19;replace h19:=h19 (by kernel_rfl);change _=_ at h19;subst v19;intro v20 h20;replace h20:=h20 (by kernel_rfl);change _=_ at h20;subst v20;intro v21 h21;replace h21:=h21 (by kernel_rfl)
   change _=_ at h21;subst v21;intro v22 _;intro v23 _;intro v24 _;intro v25 _;intro v26 h26;replace h26:=h26 (by kernel_rfl);change _=_ at h26;subst v26;intro v27 h27;replace h27:=h27 (by kernel_rfl);change _=_ at h27;subst v27;intro v28 h28;replace h28:=h28 (by kernel_rfl)
   obtain ⟨g28,c28,la28,lc28,s28⟩:=h28
   simp only [Given,gv2]
   have H28:=Lib.hid s28;clear s28 hI;go_wp2_with fail
   go_roundw
   case rel=>exact ⟨k+1,by omega,by go_num,_,_,_,by rw [HTK.out];exact H28.out⟩
   case measure=>simp [intOf] <;> omega
  ·obtain rfl:k=NL:=by omega
   have hfull:LL.take k=LL:=List.take_of_length_le (by rw [HNL.out];omega)
   rw [hfull] at S;clear hfull;go_wp2_with fail
   go_ret
   refine ⟨HK,by rw [S.out.hb];rfl,xa,rn,xc,la,lc,?_⟩
   have s:=S.out
   rw [HNL.out,s.hb]
   exact s
theorem rtwin_any {w:World} {No:Nat→Prop} {H:PrH} {R:List Rg} {LL:List (Int × List Int)} (p:PrIn w No H R LL) (hs:SrtP LL) (hl:LL.length≤100000) (hrl:R.length≤1000) (hpl:∀ x ∈ LL,0 < x.2.length∧x.2.length≤4096) :
  Calls Tryz.prog 26 #[.pointer (some ⟨H.b,0,none⟩)] w fun e w'=>∃ H':PrH,e = .returned (.pointer (some ⟨H'.b,0,none⟩))∧PrIn w' (fun k=>k < w.heap.size∨H'.own LL k) H' R LL∧(∀ k,H'.own LL k→w.heap.size≤k∧k < w'.heap.size)∧Below w.heap.size w w':=by
 refine (rtwin_raw p hs hl hrl hpl).mono ?_
 rintro e w' ⟨H',rfl,xa,rn,rc,la,lc,s⟩
 exact ⟨H',rfl,s.prIn rfl,s.blk,s.bel⟩
theorem bytes_set {l:List Value} {i:Nat} {v:Value} {T:TypeId}:some (Obj.cells (l.toArray.setIfInBounds i v) T (0,0))=some (.cells (l.set i v).toArray T (0,0)):=by
 rw [List.setIfInBounds_toArray]
section
variable {No:Nat→Prop} {h:RmH} {st:Mc} {w w3 w4:World} {H':PrH} {R:List Rg} {L:List (Int × List Int)}
/-- A process made: where it is laid, and behind it. -/
theorem RmIn.makes (i:RmIn w No h st) {k0 c:Nat} {zs:List Value} (hk:k0 < st.pr) (hf:st.has (k0:Int)=false) (hs3:RSetC w3 h.s h.sl st.pr c zs (st.v ||| qbit k0)) (hg3:w.grownBy w3 (some h.sl)) (b4:Below w3.heap.size w3 w4)
  (p:PrIn w4 (fun k=>k < w3.heap.size∨H'.own L k) H' R L) (ho:∀ k,H'.own L k→w3.heap.size≤k∧k < w4.heap.size) (ok:McOk { st with v:=st.v ||| qbit k0,rs:=upd st.rs k0 R,ms:=upd st.ms k0 L }) :
  w3.cell? ⟨h.m,10,none⟩=some (.slice (some ⟨h.p,0,none⟩) st.pr st.pr)∧w4.cell? ⟨h.p,k0,none⟩=some (.pointer none)∧w4.frozen? ⟨h.p,k0,none⟩=false ∧
  RmIn (w4.setCell ⟨h.p,k0,none⟩ (.pointer (some ⟨H'.b,0,none⟩))) (fun k=>No k∨H'.own L k) { h with pr:=upd h.pr k0 H' } { st with v:=st.v ||| qbit k0,rs:=upd st.rs k0 R,ms:=upd st.ms k0 L }∧Tn (fun k=>k=h.sl∨k=h.p) w (w4.setCell ⟨h.p,k0,none⟩ (.pointer (some ⟨H'.b,0,none⟩))):=by
 have t3:Tn (fun k=>k=h.sl∨k=h.p) w w3:=(Tn.refl _ w).put hg3 (.inl (.inl rfl))
 have t4:=t3.call b4
 have g5:=cell_grown1 w4 h.p k0 (.pointer (some ⟨H'.b,0,none⟩))
 have t5:Tn (fun k=>k=h.sl∨k=h.p) w _:=t4.put g5 (.inl (.inr rfl))
 have hml:¬ (h.m=h.sl∨h.m=h.p):=fun e=>by
  rcases e with e | e
  ·exact i.no.2.2.1 (by rw [e];exact i.no.1)
  ·exact i.no.2.2.1 (by rw [e];exact i.no.2.1)
 have hm:h.m < w.heap.size:=(Array.getElem?_eq_some_iff.1 i.row).1
 have hplt:h.p < w.heap.size:=i.lt _ i.no.2.1
 have p3:w3.heap[h.p]?=some (.cells (prRow h st).toArray 72 (0,0)):=(hg3.block h.p hplt (fun e=>by injection e with e;exact i.ne.1 e.symm)).trans i.prow
 have p4:=row_keep p3 b4
 have q4:=i.ptr_no hk hf
 refine ⟨(World.cell?_of_block (a:=⟨h.m,10,none⟩) (t3.block h.m hm hml)).trans i.cells.2.2.2.2.2,?_,frozen_of_row w4 h.p k0 _ _ p4,?_,t5⟩
 ·refine (World.cell?_of_block (a:=⟨h.p,k0,none⟩) (b4.block h.p (Array.getElem?_eq_some_iff.1 p3).1)).trans ?_
  exact (World.cell?_of_block (a:=⟨h.p,k0,none⟩) (hg3.block h.p hplt (fun e=>by injection e with e;exact i.ne.1 e.symm))).trans q4
 ·have hsp:h.s ≠ h.p:=fun e=>i.no.2.2.2 (by rw [e];exact i.no.2.1)
  have hs4:=hs3.below b4
  have hs5:=hs4.at (g5.block _ hs4.lt.1 (fun e=>by injection e with e;exact hsp e)) (g5.block _ hs4.lt.2 (fun e=>by injection e with e;exact i.ne.1 e))
  refine i.made t5 hs5 ?_ ?_ (taken_has i.ok hk) ok (fun k hk=>Nat.le_trans t3.size (ho k hk).1) (fun k hk=>.inl hk) (fun k hk=>?_) (fun k hk=>?_)
  ·rw [heap_setCell_same w4 h.p k0 _ _ _ p4]
   exact bytes_set
  ·have hnp:¬ H'.own L h.p:=fun e=>by have:=(ho _ e).1;have:=t3.size;omega
   have p5:=p.tn (Tn.mono (Q':=fun k=>k=h.p) ((Tn.refl (fun k=>k=h.p) w4).put g5 (.inl rfl)) (fun k _ e=>e)) (fun k e=>by rw [e];exact ⟨.inl (by have:=t3.size;omega),hnp⟩)
   refine p5.less (fun k hk=>?_) (fun k hk=>.inr hk)
   rcases hk with hk | hk
   ·exact .inl (by have:=i.lt k hk;have:=t3.size;omega)
   ·exact .inr hk
  ·rcases hk with hk | hk
   ·exact .inl hk
   ·exact .inr (by have:=(ho k hk).1;have:=t3.size;omega)
  ·have h2:=g5.size
   rcases hk with hk | hk
   ·have:=i.lt k hk;have:=t4.size;omega
   ·have:=(ho k hk).2;omega
/-- What a machine owns behind a process was made. -/
theorem RmIn.makes_own {k0:Nat} {v':BitVec 64} {B:Nat} (hv:∀ q,Mc.has { st with v:=v',rs:=upd st.rs k0 R,ms:=upd st.ms k0 L } q=(st.has q || decide (q=(k0:Int)))) (ho:∀ k,H'.own L k→B≤k) :
  ∀ k,RmH.own { h with pr:=upd h.pr k0 H' } { st with v:=v',rs:=upd st.rs k0 R,ms:=upd st.ms k0 L } k→h.own st k∨B≤k:=by
 rintro k (e | e | ⟨q,hq,hk⟩)
 ·exact .inl (.inl e)
 ·exact .inl (.inr (.inl e))
 ·change (upd h.pr k0 H' q).own (upd st.ms k0 L q) k at hk
  by_cases e:q=k0
  ·rw [e,upd_same,upd_same] at hk
   exact .inr (ho k hk)
  ·rw [upd_other _ _ e,upd_other _ _ e] at hk
   rw [hv] at hq
   exact .inl (.inr (.inr ⟨q,by simpa [e] using hq,hk⟩))
end
section
variable {No:Nat→Prop} {h:RmH} {st:Mc} {w:World}
set_option maxHeartbeats 4000000 in
theorem rdo_list (i:RmIn w No h st) (pid ad n pr:Int) (d:List Int) (a:Option Addr) (dn dc:Nat) (hp:(Lit.int .i64 pid).wf=true) (hk:(Lit.int .i64 ad).wf=true) (hn:(Lit.int .i64 n).wf=true) (hd:d.length=dn) (hdl:dn≤9223372036854775807)  (hE:checkE st ⟨9,pid,ad,n,pr,d⟩=0) :
  Calls Tryz.prog 9 #[.pointer (some ⟨h.m,0,none⟩),.agg #[.int .i64 9,.int .i64 pid,.int .i64 ad,.int .i64 n,.int .i64 pr,.slice a dn dc]] w (RDoPost No h st ⟨0,0,[],pidsK st.v st.pr⟩ (st) w):=by
 have s0:=rdos_start (orow:=#[.int .i64 9,.int .i64 pid,.int .i64 ad,.int .i64 n,.int .i64 pr,.slice a dn dc]) i
 have hck:=rcheck_any s0.mc ⟨9,pid,ad,n,pr,d⟩ a dn dc hp hk hn hd hdl
 have HI:=Lib.hid i;have HP:=Lib.hid hp;have HAD:=Lib.hid hk;have HN:=Lib.hid hn;have HD:=Lib.hid hd
 obtain ⟨o0,o1,o2,o3,o4,o5⟩:=cells6 s0.op
 have HS0:=Lib.hid s0;rw [hE] at hck
 skip
 clear hE;have HCK:=Lib.hid hck;clear hck s0 i hp hk hn hd 
 go_enter Tryz.func9,Tryz.ntmps9
 go_wp2_with fail
 refine HCK.out.mono ?_
 rintro e w2 ⟨rfl,hb2⟩
 have HS2:=Lib.hid (HS0.out.below hb2)
 replace o0:=cel hb2 o0;replace o1:=cel hb2 o1;replace o2:=cel hb2 o2;replace o3:=cel hb2 o3;replace o4:=cel hb2 o4;replace o5:=cel hb2 o5;clear hb2
 obtain ⟨_,_,_,_,c9,_⟩:=HS2.out.mc.cells
 obtain ⟨zc,zs,hset⟩:=HS2.out.mc.set
 have HL:=Lib.hid (crlist_any h.s h.sl st.pr st.v w2 hset HI.out.ok.prL.2)
 clear hset;go_wp2_with fail
 refine HL.out.mono ?_
 rintro e w3 ⟨pv,rfl,hov,hb3⟩
 obtain ⟨pa,pc,rfl⟩:=hov.shape
 have HS3:=Lib.hid (HS2.out.below hb3)
 have HOV:=Lib.hid hov;clear hov hb3 c9
 obtain ⟨y0,y1,y2,y3⟩:=cells4a HS3.out.res
 have hf:∀ i,w3.frozen? ⟨w.heap.size+1,i,none⟩=false:=fun i=>frozen_of_row w3 (w.heap.size+1) i _ _ HS3.out.res
 have HF:=Lib.hid (HS3.out.fin (B:=w2.heap.size) HS2.out.lt (⟨0,0,[],pidsK st.v st.pr⟩:Ans) (dv:=.slice none 0 0) (pv:=.slice pa (pidsK st.v st.pr).length pc) (Owns.nil _ _ _ _) HOV.out)
 clear o0 o1 o2 o3 o4 o5
 go_wp2
 obtain ⟨r0,r1,r2,r3⟩:=cells4a HF.out.2.2.2.2
 unfold sets sets sets sets sets at r0 r1 r2 r3
 refine bodyPost_ret (v:=.agg #[.int .i64 (Ans.err (⟨0,0,[],pidsK st.v st.pr⟩:Ans)),.int .i64 (Ans.pid (⟨0,0,[],pidsK st.v st.pr⟩:Ans)),.slice none 0 0,.slice pa (pidsK st.v st.pr).length pc]) (by simp [results,Tryz.results9,go_sem,r0,r1,r2,r3]) rfl ?_
 skip
 exact ⟨_,_,_,rfl,HF.out.1,HF.out.2.1,HF.out.2.2.1,HF.out.2.2.2.1,HS3.out.hm,fun k hk=>(HS3.out.own k hk).imp id (fun h=>by omega)⟩
set_option maxHeartbeats 4000000 in
theorem rdo_make (i:RmIn w No h st) (pid ad n pr:Int) (d:List Int) (a:Option Addr) (dn dc:Nat) (hp:(Lit.int .i64 pid).wf=true) (hk:(Lit.int .i64 ad).wf=true) (hn:(Lit.int .i64 n).wf=true) (hd:d.length=dn) (hdl:dn≤9223372036854775807) (k0:Nat) (hf:firstF st.v st.pr=k0) (hk0:k0 < st.pr) (hE:checkE st ⟨1,pid,ad,n,pr,d⟩=0) :
  Calls Tryz.prog 9 #[.pointer (some ⟨h.m,0,none⟩),.agg #[.int .i64 1,.int .i64 pid,.int .i64 ad,.int .i64 n,.int .i64 pr,.slice a dn dc]] w (RDoPost No h st ⟨0,(k0:Int),[],[]⟩ ({ st with v:=st.v ||| qbit k0 }) w):=by
 have s0:=rdos_start (orow:=#[.int .i64 1,.int .i64 pid,.int .i64 ad,.int .i64 n,.int .i64 pr,.slice a dn dc]) i
 have hck:=rcheck_any s0.mc ⟨1,pid,ad,n,pr,d⟩ a dn dc hp hk hn hd hdl
 have HI:=Lib.hid i;have HP:=Lib.hid hp;have HAD:=Lib.hid hk;have HN:=Lib.hid hn;have HD:=Lib.hid hd
 obtain ⟨o0,o1,o2,o3,o4,o5⟩:=cells6 s0.op
 have HS0:=Lib.hid s0;rw [hE] at hck;have HK0:=Lib.hid hk0;have HFI:=Lib.hid hf
 skip
 clear hE hk0 hf;have HCK:=Lib.hid hck;clear hck s0 i hp hk hn hd 
 go_enter Tryz.func9,Tryz.ntmps9
 go_wp2_with fail
 refine HCK.out.mono ?_
 rintro e w2 ⟨rfl,hb2⟩
 have HS2:=Lib.hid (HS0.out.below hb2)
 replace o0:=cel hb2 o0;replace o1:=cel hb2 o1;replace o2:=cel hb2 o2;replace o3:=cel hb2 o3;replace o4:=cel hb2 o4;replace o5:=cel hb2 o5;clear hb2
 obtain ⟨_,_,_,_,c9,_⟩:=HS2.out.mc.cells
 obtain ⟨zc,zs,hset⟩:=HS2.out.mc.set
 have HT:=Lib.hid (crtake_yes h.s h.sl st.pr k0 st.v w2 hset HI.out.ok.prL.2 HFI.out HK0.out)
 clear hset;go_wp2_with fail
 refine HT.out.mono ?_
 rintro e w3 ⟨rfl,hs3,hg3⟩
 have hno:st.has (k0:Int)=false:=first_no HI.out.ok HFI.out HK0.out
 have hp0:PrIn (w3.alloc (.cells #[.slice none 0 0,.slice none 0 0] 80)) (fun k=>k < w3.heap.size∨PrH.own ⟨w3.heap.size,fun _=>0,fun _=>0⟩ [] k) ⟨w3.heap.size,fun _=>0,fun _=>0⟩ [] []:=
  ⟨⟨none,0,0,none,0,heap_alloc_new _ _,⟨RdS.nil _ _ _,fun x e=>(by cases e)⟩,⟨RdS.nil _ _ _,fun x e=>(by cases e)⟩⟩,fun x hx=>(by cases hx),fun x hx=>(by cases hx),fun x hx=>(by cases hx),fun k hk=>.inr hk⟩
 have hrs:st.rs (k0:Int)=[]∧st.ms (k0:Int)=[]:=HI.out.ok.gone _ hno
 have hst:({ st with v:=st.v ||| qbit k0,rs:=upd st.rs (k0:Int) [],ms:=upd st.ms (k0:Int) [] }:Mc)={ st with v:=st.v ||| qbit k0 }:=by
  have e1:=upd_id st.rs (k0:Int)
  have e2:=upd_id st.ms (k0:Int)
  rw [hrs.1] at e1;rw [hrs.2] at e2;rw [e1,e2]
 have hown0:∀ k,PrH.own ⟨w3.heap.size,fun _=>0,fun _=>0⟩ [] k→w3.heap.size≤k∧k < (w3.alloc (.cells #[.slice none 0 0,.slice none 0 0] 80)).heap.size:=fun k hk=>by
  rcases hk with e | ⟨x,hx,_⟩
  ·rw [e];exact ⟨Nat.le_refl _,by simp⟩
  ·cases hx
 have hbe:Below w3.heap.size w3 (w3.alloc (.cells #[.slice none 0 0,.slice none 0 0] 80)):=below_a _ _
 obtain ⟨c10,cp,cf,hmk,htn⟩:=HS2.out.mc.makes HK0.out hno hs3 hg3 hbe hp0 hown0 (by rw [hst];exact ok_taken HI.out.ok HK0.out)
 have hmo:=fun k=>RmIn.makes_own (h:=h) (R:=[]) (v':=st.v ||| qbit k0) (B:=w3.heap.size) (taken_has HI.out.ok HK0.out) (fun k hk=>(hown0 k hk).1) k
 rw [hst] at hmk hmo
 have hgs:=hg3.size
 have hs5:=HS2.out.turn hmk (htn.mono (fun k _ e=>e.elim .inl (fun e=>.inr (.inl e)))) (fun k hk=>.inl hk) (fun k hk=>hk.imp id (fun e=>by have:=(hown0 k e).1;omega)) rfl (fun k hk=>(hmo k hk).imp id (fun e=>by omega))
 obtain ⟨w4,hw4⟩:∃ y,w3.alloc (.cells #[.slice none 0 0,.slice none 0 0] 80)=y:=⟨_,rfl⟩
 rw [hw4] at cp cf hs5
 obtain ⟨b4,hb4⟩:∃ y,w3.heap.size=y:=⟨_,rfl⟩
 rw [hb4] at hs5
 obtain ⟨w5,hw5⟩:∃ y,w4.setCell ⟨h.p,k0,none⟩ (.pointer (some ⟨b4,0,none⟩))=y:=⟨_,rfl⟩
 have hs6:=hs5
 rw [show w4.setCell ⟨h.p,k0,none⟩ (.pointer (some ⟨PrH.b ⟨b4,fun _=>0,fun _=>0⟩,0,none⟩))=w5 from hw5] at hs6;have HS5:=Lib.hid hs6;have HW4:=Lib.hid hw4;have HB4:=Lib.hid hb4;have HW5:=Lib.hid hw5
 have hk0p:(k0:Int) < (st.pr:Int):=by have:=HK0.out;omega
 have hprl:(st.pr:Int)≤64:=by have:=HI.out.ok.prL;omega
 clear hs3 hg3 hno hp0 hrs hst hown0 hbe hmk htn hmo hgs hs5 hs6 hw4 hb4 hw5 c9
 obtain ⟨y0,y1,y2,y3⟩:=cells4a HS5.out.res
 have hf:∀ i,w5.frozen? ⟨w.heap.size+1,i,none⟩=false:=fun i=>frozen_of_row w5 (w.heap.size+1) i _ _ HS5.out.res
 have HF:=Lib.hid (HS5.out.fin (B:=w5.heap.size) HS5.out.lt (⟨0,(k0:Int),[],[]⟩:Ans) (dv:=.slice none 0 0) (pv:=.slice none 0 0) (Owns.nil _ _ _ _) (Owns.nil _ _ _ _))
 clear o0 o1 o2 o3 o4 o5
 go_wp2_with (first | (rw [HW4.out]) | (rw [HB4.out]) | (rw [HW5.out]))
 obtain ⟨r0,r1,r2,r3⟩:=cells4a HF.out.2.2.2.2
 unfold sets sets sets sets sets at r0 r1 r2 r3
 refine bodyPost_ret (v:=.agg #[.int .i64 (Ans.err (⟨0,(k0:Int),[],[]⟩:Ans)),.int .i64 (Ans.pid (⟨0,(k0:Int),[],[]⟩:Ans)),.slice none 0 0,.slice none 0 0]) (by simp [results,Tryz.results9,go_sem,r0,r1,r2,r3]) rfl ?_
 skip
 exact ⟨_,_,_,rfl,HF.out.1,HF.out.2.1,HF.out.2.2.1,HF.out.2.2.2.1,HS5.out.hm,fun k hk=>(HS5.out.own k hk).imp id (fun h=>by omega)⟩
end
theorem nth_wf8 {b:List Int} (h:∀ y ∈ b,(Lit.int .u8 y).wf=true) (i:Nat):(Lit.int .u8 (nth b i)).wf=true:=by
 by_cases hi:i < b.length
 ·rw [nth_eq hi];exact h _ (List.getElem_mem _)
 ·rw [nth_out (by omega)];decide
theorem loadL_snoc (PG:Int) (M:List (Int × List Int)) (ad:Int) (k:Nat):loadL PG M ad (k+1)=loadL PG M ad k ++ [nth (pgB PG M ((ad+k) / PG)) ((ad+k) % PG).toNat]:=by
 unfold loadL
 rw [List.range_succ,List.map_append];rfl
section
variable {No:Nat→Prop} {h:RmH} {st:Mc} {w:World}
set_option maxHeartbeats 4000000 in
theorem rdo_load (i:RmIn w No h st) (pid ad n pr:Int) (d:List Int) (a:Option Addr) (dn dc:Nat) (hp:(Lit.int .i64 pid).wf=true) (hk:(Lit.int .i64 ad).wf=true) (hn:(Lit.int .i64 n).wf=true) (hd:d.length=dn) (hdl:dn≤9223372036854775807) (N:Nat) (hN:n=(N:Int)) (hN2:N≤1048576) (hk0:0≤ad) (hk1:ad+N≤268435456) (hhas:st.has pid=true) (hE:checkE st ⟨5,pid,ad,n,pr,d⟩=0) :
  Calls Tryz.prog 9 #[.pointer (some ⟨h.m,0,none⟩),.agg #[.int .i64 5,.int .i64 pid,.int .i64 ad,.int .i64 n,.int .i64 pr,.slice a dn dc]] w (RDoPost No h st ⟨0,0,loadL st.c.page (st.ms pid) ad N,[]⟩ (st) w):=by
 have s0:=rdos_start (orow:=#[.int .i64 5,.int .i64 pid,.int .i64 ad,.int .i64 n,.int .i64 pr,.slice a dn dc]) i
 have hck:=rcheck_any s0.mc ⟨5,pid,ad,n,pr,d⟩ a dn dc hp hk hn hd hdl
 have HI:=Lib.hid i;have HP:=Lib.hid hp;have HAD:=Lib.hid hk;have HN:=Lib.hid hn;have HD:=Lib.hid hd
 obtain ⟨o0,o1,o2,o3,o4,o5⟩:=cells6 s0.op
 have HS0:=Lib.hid s0;rw [hE] at hck;have HN2:=Lib.hid hN2;have HA0:=Lib.hid hk0;have HA1:=Lib.hid hk1;have HH:=Lib.hid hhas
 skip
 subst hN;clear hE hN2 hk0 hk1 hhas;have HCK:=Lib.hid hck;clear hck s0 i hp hk hn hd 
 go_enter Tryz.func9,Tryz.ntmps9
 go_wp2_with fail
 refine HCK.out.mono ?_
 rintro e w2 ⟨rfl,hb2⟩
 have HS2:=Lib.hid (HS0.out.below hb2)
 replace o0:=cel hb2 o0;replace o1:=cel hb2 o1;replace o2:=cel hb2 o2;replace o3:=cel hb2 o3;replace o4:=cel hb2 o4;replace o5:=cel hb2 o5;clear hb2
 obtain ⟨_,_,_,_,_,c10⟩:=HS2.out.mc.cells
 obtain ⟨q,hq,hql,cp⟩:=HS2.out.mc.ptr HH.out
 subst hq
 have hq64:(q:Int) < (st.pr:Int):=by omega
 have hprl:(st.pr:Int)≤64:=by have:=HI.out.ok.prL;omega
 go_wp2_with fail;go_quiet (fail)
 have HWD:Hid (Below w2.heap.size w2 (w2.drewN 9)):=belowN (Below.refl _ _) _
 go_wp2_with fail
 go_loopw [11,12] (fun v i wr=>∃ k:Nat,k≤N∧i = .int .i64 k∧Hid (Owns .u8 5 wr w2.heap.size v (loadL st.c.page (st.ms (q:Int)) ad k)∧Below w2.heap.size w2 wr)) (fun _ i _=>N - (intOf i).toNat)
 case atStart=>exact ⟨0,by omega,rfl,Owns.nil _ _ _ _,belowN (Below.refl _ _) _⟩
 case round=>
  obtain ⟨k,hk,rfl,hh⟩:=hrel
  obtain ⟨ow,hbr⟩:=hh.out
  have S:=Lib.hid (HS2.out.below hbr)
  have BR:=Lib.hid hbr;replace o0:=cel hbr o0;replace o1:=cel hbr o1;replace o2:=cel hbr o2;replace o3:=cel hbr o3;replace o4:=cel hbr o4;replace o5:=cel hbr o5
  obtain ⟨xa,xc,rfl⟩:=ow.shapeN k (loadL_len _ _ _ _)
  have OW:=Lib.hid ow
  have hn1:=HN2.out
  have ha0:=HA0.out
  have ha1:=HA1.out
  clear hh ow hbr
  by_cases hkN:k < N
  ·have hkn:(k:Int) < (N:Int):=by omega
   have HC:=Lib.hid (rload_any S.out.mc (q:Int) HH.out (ad+k) ⟨by omega,by omega⟩)
   obtain ⟨X,hX⟩:∃ X,nth (pgB st.c.page (st.ms (q:Int)) ((ad+k) / st.c.page)) ((ad+k) % st.c.page).toNat=X:=⟨_,rfl⟩
   rw [hX] at HC
   have HSN:=Lib.hid (loadL_snoc st.c.page (st.ms (q:Int)) ad k)
   rw [hX] at HSN
   have hwx:(Lit.int .u8 X).wf=true:=by rw [← hX];exact nth_wf8 (pgOk_B HI.out.ok.cf.page.1 (fun x hx=>(HI.out.ok.pg _ x hx).1) _).2 _
   have HWX:=Lib.hid hwx;clear hX hwx;go_wp2_with fail
   refine HC.out.mono ?_
   rintro e w3 ⟨rfl,hb3⟩
   have OW3:=Lib.hid (OW.out.below hb3)
   have B3:=Lib.hid (Below.call BR.out hb3)
   clear hb3
   go_wp2_with (at_builtin;refine app_one u8T u8I (by decide) rfl (.tmp 146) (.tmp 154) rfl _ w2.heap.size (.slice xa k xc) (loadL st.c.page (st.ms (q:Int)) ad k) rfl OW3.out X rfl HWX.out (by rw [loadL_len];omega) B3.out.size ?_;intro v4 w4 ho4 hg4)
   have hb4:=B3.out.trans (hg4.below B3.out.size (fun y e=>(OW3.out.at_base y e).1))
   go_roundw
   case rel=>exact ⟨k+1,by omega,by go_num,by rw [HSN.out];exact ho4,hb4⟩
   case measure=>simp [intOf] <;> omega
  ·obtain rfl:k=N:=by omega
   have HS5:=S
   clear c10 cp HWD
   obtain ⟨y0,y1,y2,y3⟩:=cells4a S.out.res
   have hf:∀ i,wr.frozen? ⟨w.heap.size+1,i,none⟩=false:=fun i=>frozen_of_row wr (w.heap.size+1) i _ _ S.out.res
   have HF:=Lib.hid (S.out.fin (B:=w2.heap.size) HS2.out.lt (⟨0,0,loadL st.c.page (st.ms (q:Int)) ad k,[]⟩:Ans) (dv:=.slice xa k xc) (pv:=.slice none 0 0) OW.out (Owns.nil _ _ _ _))
   skip
   go_wp2
   obtain ⟨r0,r1,r2,r3⟩:=cells4a HF.out.2.2.2.2
   unfold sets sets sets sets sets at r0 r1 r2 r3
   refine bodyPost_ret (v:=.agg #[.int .i64 (Ans.err (⟨0,0,loadL st.c.page (st.ms (q:Int)) ad k,[]⟩:Ans)),.int .i64 (Ans.pid (⟨0,0,loadL st.c.page (st.ms (q:Int)) ad k,[]⟩:Ans)),.slice xa k xc,.slice none 0 0]) (by simp [results,Tryz.results9,go_sem,r0,r1,r2,r3]) rfl ?_
   exact ⟨_,_,_,rfl,HF.out.1,HF.out.2.1,HF.out.2.2.1,HF.out.2.2.2.1,S.out.hm,fun k hk=>(S.out.own k hk).imp id (fun h=>by omega)⟩
end
end Go.Proofs.YtoepnbfifjgpfaaGreat
