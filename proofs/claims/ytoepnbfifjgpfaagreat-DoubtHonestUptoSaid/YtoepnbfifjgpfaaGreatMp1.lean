/- A map of places: what it tells, laid, cleared. A disk: what it is, what becomes of it; where it lies. disk: what writes a disk's own blocks: settle, Cut, Flush. Opening a slice of bools. Opening a slice of almanaclaw25.Act. The reference's set of numbers, whose row may have room behind: contracts of Has, Take, Free, List. Cells of a row of the call's own, read and written. No program in sight. The document's abstract machine in memory: its plain state is that of the program's own. The document's machine: one process turned. The document's machine: a process made, a process gone. -/
import Derived.Test.YtoepnbfifjgpfaaGreatProg
import Derived.Maps.Keyed
import Derived.DeepKeys4
import Derived.ProofKit
import Derived.WalkKit
import Derived.Test.YtoepnbfifjgpfaaGreatMu15
import Derived.Test.YtoepnbfifjgpfaaGreatMu3
import Derived.RegionTactic
import Derived.Deep.Grids
import Derived.Test.YtoepnbfifjgpfaaGreatMu24
import Derived.Test.YtoepnbfifjgpfaaGreatMu14
import Derived.Test.YtoepnbfifjgpfaaGreatMu1
import Derived.Laws.OwnMore
namespace Go.Proofs.YtoepnbfifjgpfaaGreat
set_option maxRecDepth 100000
open Go.RowKit
/-- A slice of bools. -/
structure RdB (w:World) (a:Option Addr) (n c:Nat) (l:List Bool):Prop where
 len:l.length=n
 cap:n≤c
 max:c≤maxLen
 cell:∀ i,i < n→∃ b o,a=some ⟨b,o,none⟩∧w.cell? ⟨b,o+i,none⟩=some (.bool (l.getD i false))
 void:a=none→c=0
theorem bools_open {H:Type} {enc:TypeId × Value→H} {P:Program} {w:World} {base:Nat} {held:Bool} {t e:TypeId} {a:Option Addr} {len cap:Nat} {d:DataW H} {p:List MemPlace} (ht:P.underlying t=some (.slice e)) (he:P.underlying e=some .bool) (hc:P.cellsOf e=1)
  (h:∃ n,DataW.trod enc P w base (fun _=>true) held n t (Value.slice a len cap).cells.toList=some (d,p)):∃ z,RdB w a len cap z:=by
 obtain ⟨n,hn⟩:=h
 rcases Go.Deep.open_bools ht he hc hn with ⟨hcs,_⟩ | ⟨x,l,c,B,hcs,_,hl,hm,_,hcell⟩
 ·simp [Value.cells] at hcs
  obtain ⟨rfl,rfl,rfl⟩:=hcs
  exact ⟨[],rfl,Nat.le_refl _,by unfold maxLen;omega,fun i hi=>by omega,fun _=>rfl⟩
 ·simp [Value.cells] at hcs
  obtain ⟨rfl,rfl,rfl⟩:=hcs
  refine ⟨(List.range len).map B,by simp,hl,hm,fun i hi=>?_,fun h=>by cases h⟩
  obtain ⟨b,o,sp⟩:=x
  have h0:=hcell 0 (by omega)
  have hsp:sp=none:=by simpa [Addr.add] using World.cell?_spot h0
  subst hsp
  refine ⟨b,o,rfl,?_⟩
  have:=hcell i (by omega)
  rw [List.getD_eq_getElem?_getD,List.getElem?_map,List.getElem?_range hi]
  rw [show (Addr.mk b o none).add i=⟨b,o+i,none⟩ by simp [Addr.add] <;> omega] at this
  simpa using this
open Go.ChangeShapes Go.WideShapes Go.ChangeAt Go.RowKit
structure ActP where
 kind:Int
 o:OpP
 ae:Int
 ap:Int
 ad:List Int
 al:List Int
 own:Bool
 err:Int
 epoch:Int
 next:Int
 off:Bool
 no:Bool
instance:Inhabited ActP:=⟨⟨0,default,0,0,[],[],false,0,0,0,false,false⟩⟩
structure ActAt (w:World) (b off:Nat) (A:ActP):Prop where
 ex:∃ a6 n6 c6 a9 n9 c9 a10 n10 c10,(w.cell? ⟨b,off,none⟩=some (.int .i64 A.kind)∧w.cell? ⟨b,off+1,none⟩=some (.int .i64 A.o.kind)∧w.cell? ⟨b,off+2,none⟩=some (.int .i64 A.o.pid)∧w.cell? ⟨b,off+3,none⟩=some (.int .i64 A.o.at_)∧w.cell? ⟨b,off+4,none⟩=some (.int .i64 A.o.n)∧w.cell? ⟨b,off+5,none⟩=some (.int .i64 A.o.prot)∧w.cell? ⟨b,off+6,none⟩=some (.slice a6 n6 c6)∧w.cell? ⟨b,off+7,none⟩=some (.int .i64 A.ae)∧w.cell? ⟨b,off+8,none⟩=some (.int .i64 A.ap)∧w.cell? ⟨b,off+9,none⟩=some (.slice a9 n9 c9)∧w.cell? ⟨b,off+10,none⟩=some (.slice a10 n10 c10)∧w.cell? ⟨b,off+11,none⟩=some (.bool A.own)∧w.cell? ⟨b,off+12,none⟩=some (.int .i64 A.err)∧w.cell? ⟨b,off+13,none⟩=some (.int .u64 A.epoch)∧w.cell? ⟨b,off+14,none⟩=some (.int .i64 A.next)∧w.cell? ⟨b,off+15,none⟩=some (.bool A.off)∧w.cell? ⟨b,off+16,none⟩=some (.bool A.no))∧RdAt .u8 w a6 n6 c6 A.o.data∧RdAt .u8 w a9 n9 c9 A.ad∧RdAt .i64 w a10 n10 c10 A.al
 wf:(Lit.int .i64 A.kind).wf=true∧((Lit.int .i64 A.o.kind).wf=true∧(Lit.int .i64 A.o.pid).wf=true∧(Lit.int .i64 A.o.at_).wf=true∧(Lit.int .i64 A.o.n).wf=true∧(Lit.int .i64 A.o.prot).wf=true)∧(Lit.int .u64 A.epoch).wf=true
structure ActsAt (w:World) (a:Option Addr) (n:Nat) (L:List ActP):Prop where
 len:L.length=n
 at_:∀ i A,L[i]?=some A→∃ b o,a=some ⟨b,o,none⟩∧ActAt w b (o+i * 17) A
def bulkAct (A:ActP):Nat:=A.o.data.length+A.ad.length+A.al.length
def sumAct:List ActP→Nat
 | []=>0
 | A :: r=>bulkAct A+sumAct r
theorem bulk_act {H:Type} (R:List Nat) (f:Nat→ActP) (g:Nat→DataW H) (h:∀ r ∈ R,bulkAct (f r)+1≤Rows.uptoBulk (g r)):sumAct (R.map f)+R.length≤Rows.uptoBulkAll (R.map g):=by
 induction R with
 | nil=>simp [Rows.uptoBulkAll,sumAct]
 | cons x R ih=>
  have h1:=h x (by simp)
  have h2:=ih (fun r hr=>h r (by simp [hr]))
  rw [List.map_cons,List.map_cons,List.length_cons]
  simp only [Rows.uptoBulkAll,sumAct]
  omega
def fieldsB (fs:Array Field) (OT:List (Nat × TypeId)):Bool:=fs.size == OT.length && (List.range OT.length).all fun i=>match fs[i]?,OT[i]? with | some f,some q=>f.offset == q.1 && f.type == q.2 | _,_=>false
/-- A struct's field, by its place in the list (offset, type). -/
theorem field_at {H:Type} {enc:TypeId × Value→H} {P:Program} {w:World} {base:Nat} {held:Bool} {k:Nat} {T:TypeId} {fs:Array Field} {cs:List Value} {x:DataW H × List MemPlace} (OT:List (Nat × TypeId)) (hs:P.underlying T=some (.struct fs)) (hF:fieldsB fs OT=true) (h:DataW.trod enc P w base (fun _=>true) held k T cs=some x) :
  ∃ (xs:List (DataW H × List MemPlace)) (kk:Nat),x.1 = .agg (xs.map (·.1))∧∀ (j off:Nat) (U:TypeId) (vs:List Value),OT[j]?=some (off,U)→P.cellsOf U=vs.length→(cs.drop off).take vs.length=vs→∃ y,DataW.trod enc P w base (fun _=>true) held kk U vs=some y∧xs[j]?=some y:=by
 obtain ⟨xs,kk,_,hDi,_,hxl,hg⟩:=DataW.trod_struct hs h
 unfold fieldsB at hF
 rw [Bool.and_eq_true] at hF
 have h7:fs.size=OT.length:=by simpa using hF.1
 have hff:=List.all_eq_true.1 hF.2
 refine ⟨xs,kk,by rw [hDi],fun j off U vs hj hc hd=>?_⟩
 have hjl:=(List.getElem?_eq_some_iff.1 hj).1
 have hx:=hff j (by simpa using hjl)
 obtain ⟨f,hfi⟩:∃ f,fs[j]?=some f:=⟨_,Array.getElem?_eq_getElem (by omega)⟩
 rw [hfi,hj] at hx
 simp only [Bool.and_eq_true,beq_iff_eq] at hx
 obtain ⟨ho,ht⟩:=hx
 have h3:=hg j f hfi
 rw [ho,ht,hc,hd] at h3
 exact ⟨_,h3.trans (List.getElem?_eq_getElem (by omega)),List.getElem?_eq_getElem (by omega)⟩
theorem list_act {α:Type} {l:List α} (h:l.length=17):∃ v0 v1 v2 v3 v4 v5 v6 v7 v8 v9 v10 v11 v12 v13 v14 v15 v16,l=[v0,v1,v2,v3,v4,v5,v6,v7,v8,v9,v10,v11,v12,v13,v14,v15,v16]:=by
 match l,h with
 | [v0,v1,v2,v3,v4,v5,v6,v7,v8,v9,v10,v11,v12,v13,v14,v15,v16],_=>exact ⟨_,_,_,_,_,_,_,_,_,_,_,_,_,_,_,_,_,rfl⟩
def actOT:List (Nat × TypeId):=[(0,3),(1,39),(7,42),(11,4),(12,3),(13,36),(14,3),(15,4),(16,4)]
def opOT:List (Nat × TypeId):=[(0,3),(1,3),(2,3),(3,3),(4,3),(5,37)]
def ansOT:List (Nat × TypeId):=[(0,29),(1,3),(2,37),(3,40)]
theorem open_act {H:Type} {enc:TypeId × Value→H} {w:World} {base:Nat} {held:Bool} {a:Option Addr} {n c:Nat} {d:DataW H} {p:List MemPlace} {fs fs1 fs2:Array Field} (hs:Tryz.prog.underlying 44=some (.struct fs)) (hF:fieldsB fs actOT=true) (hC:Tryz.prog.cellsOf 44=17)
  (hs1:Tryz.prog.underlying 39=some (.struct fs1)) (hF1:fieldsB fs1 opOT=true) (hs2:Tryz.prog.underlying 42=some (.struct fs2)) (hF2:fieldsB fs2 ansOT=true)
  (h:DataW.Trod enc Tryz.prog w base (fun _=>true) held 24 (.slice a n c) d p):∃ L,ActsAt w a n L∧sumAct L+n≤Rows.uptoBulk d:=by
 obtain ⟨fuel,hf⟩:=h
 have hT:Tryz.prog.underlying 24=some (.slice 44):=Tryz.underlying24
 rcases Go.Deep.open_slice hT hf with ⟨hcs,hxd⟩ | ⟨x,l,c',m,k,D,Pl,hcs,_,hl,hm,hmm,hxd,hall⟩
 ·simp [Value.cells] at hcs
  obtain ⟨rfl,rfl,rfl⟩:=hcs
  exact ⟨[],⟨rfl,fun i A hA=>by simp at hA⟩,by simp [sumAct]⟩
 ·simp [Value.cells] at hcs
  obtain ⟨rfl,rfl,rfl⟩:=hcs
  simp only [if_true] at hmm
  subst hmm
  have each:∀ i,i < n→∃ A:ActP,(∃ b o,some x=some (⟨b,o,none⟩:Addr)∧ActAt w b (o+i * 17) A)∧bulkAct A+1≤Rows.uptoBulk (D i):=by
   intro i hi
   obtain ⟨cs,h1,h2⟩:=hall i (by omega)
   rw [hC] at h1
   obtain ⟨_,hlen,hcell⟩:=World.cells?_some h1
   obtain ⟨v0,v1,v2,v3,v4,v5,v6,v7,v8,v9,v10,v11,v12,v13,v14,v15,v16,rfl⟩:=list_act hlen
   obtain ⟨xs,kk,hD,key⟩:=field_at actOT hs hF h2
   obtain ⟨y0,t0,s0⟩:=key 0 0 3 [v0] rfl (by kernel_rfl) rfl
   obtain ⟨y1,t1,s1⟩:=key 1 1 39 [v1,v2,v3,v4,v5,v6] rfl (by kernel_rfl) rfl
   obtain ⟨y2,t2,s2⟩:=key 2 7 42 [v7,v8,v9,v10] rfl (by kernel_rfl) rfl
   obtain ⟨y3,t3,s3⟩:=key 3 11 4 [v11] rfl (by kernel_rfl) rfl
   obtain ⟨y4,t4,s4⟩:=key 4 12 3 [v12] rfl (by kernel_rfl) rfl
   obtain ⟨y5,t5,s5⟩:=key 5 13 36 [v13] rfl (by kernel_rfl) rfl
   obtain ⟨y6,t6,s6⟩:=key 6 14 3 [v14] rfl (by kernel_rfl) rfl
   obtain ⟨y7,t7,s7⟩:=key 7 15 4 [v15] rfl (by kernel_rfl) rfl
   obtain ⟨y8,t8,s8⟩:=key 8 16 4 [v16] rfl (by kernel_rfl) rfl
   obtain ⟨xo,ko,hDo,keyo⟩:=field_at opOT hs1 hF1 t1
   obtain ⟨xa,ka,hDa,keya⟩:=field_at ansOT hs2 hF2 t2
   obtain ⟨yo0,to0,so0⟩:=keyo 0 0 3 [v1] rfl (by kernel_rfl) rfl
   obtain ⟨yo1,to1,so1⟩:=keyo 1 1 3 [v2] rfl (by kernel_rfl) rfl
   obtain ⟨yo2,to2,so2⟩:=keyo 2 2 3 [v3] rfl (by kernel_rfl) rfl
   obtain ⟨yo3,to3,so3⟩:=keyo 3 3 3 [v4] rfl (by kernel_rfl) rfl
   obtain ⟨yo4,to4,so4⟩:=keyo 4 4 3 [v5] rfl (by kernel_rfl) rfl
   obtain ⟨yo5,to5,so5⟩:=keyo 5 5 37 [v6] rfl (by kernel_rfl) rfl
   obtain ⟨ya0,ta0,sa0⟩:=keya 0 0 29 [v7] rfl (by kernel_rfl) rfl
   obtain ⟨ya1,ta1,sa1⟩:=keya 1 1 3 [v8] rfl (by kernel_rfl) rfl
   obtain ⟨ya2,ta2,sa2⟩:=keya 2 2 37 [v9] rfl (by kernel_rfl) rfl
   obtain ⟨ya3,ta3,sa3⟩:=keya 3 3 40 [v10] rfl (by kernel_rfl) rfl
   obtain ⟨z0,e0,_,q0⟩:=DataW.trod_int Tryz.underlying3 t0
   obtain ⟨z1,e1,_,q1⟩:=DataW.trod_int Tryz.underlying3 to0
   obtain ⟨z2,e2,_,q2⟩:=DataW.trod_int Tryz.underlying3 to1
   obtain ⟨z3,e3,_,q3⟩:=DataW.trod_int Tryz.underlying3 to2
   obtain ⟨z4,e4,_,q4⟩:=DataW.trod_int Tryz.underlying3 to3
   obtain ⟨z5,e5,_,q5⟩:=DataW.trod_int Tryz.underlying3 to4
   obtain ⟨a6,n6,c6,z6,rfl,rk6,uk6⟩:=nums_of Tryz.underlying37 Tryz.underlying5 (by kernel_rfl) to5
   obtain ⟨z7,e7,_,q7⟩:=DataW.trod_int Tryz.underlying29 ta0
   obtain ⟨z8,e8,_,q8⟩:=DataW.trod_int Tryz.underlying3 ta1
   obtain ⟨a9,n9,c9,z9,rfl,rk9,uk9⟩:=nums_of Tryz.underlying37 Tryz.underlying5 (by kernel_rfl) ta2
   obtain ⟨a10,n10,c10,z10,rfl,rk10,uk10⟩:=nums_of Tryz.underlying40 Tryz.underlying3 (by kernel_rfl) ta3
   obtain ⟨z11,e11,_⟩:=DataW.trod_bool Tryz.underlying4 t3
   obtain ⟨z12,e12,_,q12⟩:=DataW.trod_int Tryz.underlying3 t4
   obtain ⟨z13,e13,_,q13⟩:=DataW.trod_int Tryz.underlying36 t5
   obtain ⟨z14,e14,_,q14⟩:=DataW.trod_int Tryz.underlying3 t6
   obtain ⟨z15,e15,_⟩:=DataW.trod_bool Tryz.underlying4 t7
   obtain ⟨z16,e16,_⟩:=DataW.trod_bool Tryz.underlying4 t8
   simp only [List.cons.injEq,and_true] at e0 e1 e2 e3 e4 e5 e7 e8 e11 e12 e13 e14 e15 e16
   subst e0 e1 e2 e3 e4 e5 e7 e8 e11 e12 e13 e14 e15 e16
   have hsp:x.spot=none:=by
    obtain ⟨cs0,h10,_⟩:=hall 0 (by omega)
    rw [hC] at h10
    obtain ⟨_,hlen0,hcell0⟩:=World.cells?_some h10
    have c0:=hcell0 0 (by omega)
    obtain ⟨xx0,xx1,xx2,xx3,xx4,xx5,xx6,xx7,xx8,xx9,xx10,xx11,xx12,xx13,xx14,xx15,xx16,rfl⟩:=list_act hlen0
    have:=World.cell?_spot c0
    simpa [Addr.add] using this
   obtain ⟨b,o,sp⟩:=x
   have hsp':sp=none:=hsp
   subst hsp'
   have cc:∀ j,j < 17→w.cell? ⟨b,o+i * 17+j,none⟩=([.int .i64 z0,.int .i64 z1,.int .i64 z2,.int .i64 z3,.int .i64 z4,.int .i64 z5,.slice a6 n6 c6,.int .i64 z7,.int .i64 z8,.slice a9 n9 c9,.slice a10 n10 c10,.bool z11,.int .i64 z12,.int .u64 z13,.int .i64 z14,.bool z15,.bool z16]:List Value)[j]?:=by
    intro j hj
    have hcj:=hcell j (by simpa using hj)
    rw [Go.WideShapes.add_plain,Go.WideShapes.add_plain] at hcj
    exact hcj
   have hbulk:z6.length+z9.length+z10.length+1≤Rows.uptoBulk (D i):=by
    have hD':D i = .agg (xs.map (·.1)):=hD
    rw [hD']
    have h35:=bulk_two (l:=xs.map (·.1)) (i:=1) (j:=2) (x:=y1.1) (y:=y2.1) (by omega) (by rw [List.getElem?_map,s1];rfl) (by rw [List.getElem?_map,s2];rfl)
    rw [hDo,hDa] at h35
    have h36:=bulk_part (l:=xo.map (·.1)) (d:=yo5.1) (List.mem_map.2 ⟨_,List.mem_of_getElem? so5,rfl⟩)
    have h37:=bulk_two (l:=xa.map (·.1)) (i:=2) (j:=3) (x:=ya2.1) (y:=ya3.1) (by omega) (by rw [List.getElem?_map,sa2];rfl) (by rw [List.getElem?_map,sa3];rfl)
    simp only [Rows.uptoBulk] at h35 ⊢
    omega
   exact ⟨⟨z0,⟨z1,z2,z3,z4,z5,z6⟩,z7,z8,z9,z10,z11,z12,z13,z14,z15,z16⟩,⟨b,o,rfl,⟨a6,n6,c6,a9,n9,c9,a10,n10,c10,⟨cc 0 (by omega),cc 1 (by omega),cc 2 (by omega),cc 3 (by omega),cc 4 (by omega),cc 5 (by omega),cc 6 (by omega),cc 7 (by omega),cc 8 (by omega),cc 9 (by omega),cc 10 (by omega),cc 11 (by omega),cc 12 (by omega),cc 13 (by omega),cc 14 (by omega),cc 15 (by omega),cc 16 (by omega)⟩,rk6,rk9,rk10⟩,q0,⟨q1,q2,q3,q4,q5⟩,q13⟩,hbulk⟩
  obtain ⟨A,hA⟩:=Go.Deep.choose_lt each
  refine ⟨(List.range n).map A,⟨by simp,fun i B hB=>?_⟩,?_⟩
  rotate_left
  ·have h1:=bulk_act (List.range n) A D (fun r hr=>(hA r (List.mem_range.1 hr)).2)
   rw [List.length_range] at h1;rw [Prod.mk.injEq] at hxd;rw [hxd.1]
   simp only [Rows.uptoBulk]
   omega
  rw [List.getElem?_map] at hB
  by_cases hi:i < n
  ·rw [List.getElem?_range hi] at hB
   simp at hB
   subst hB
   exact (hA i hi).1
  ·rw [List.getElem?_eq_none (by simp;omega)] at hB
   simp at hB
theorem acts_open {H:Type} {enc:TypeId × Value→H} {w:World} {base:Nat} {held:Bool} {a:Option Addr} {n c:Nat} {d:DataW H} {p:List MemPlace} (h:DataW.Trod enc Tryz.prog w base (fun _=>true) held 24 (.slice a n c) d p):∃ L,ActsAt w a n L∧sumAct L+n≤Rows.uptoBulk d:=
 open_act Tryz.underlying44 (by kernel_rfl) (by kernel_rfl) Tryz.underlying39 (by kernel_rfl) Tryz.underlying42 (by kernel_rfl) h
structure RSetC (w:World) (g h n c:Nat) (zs:List Value) (v:BitVec 64):Prop where
 row:w.heap[g]?=some (.cells #[.slice (some ⟨h,0,none⟩) n c] 71 (0,0))
 own:w.heap[h]?=some (.cells (bvals v n ++ zs).toArray 4 (0,0))
 ne:g ≠ h
 cap:n≤c∧c≤maxLen
theorem RSetAt.c {w:World} {g h n:Nat} {v:BitVec 64} (r:RSetAt w g h n v) (hn:n≤64):RSetC w g h n n [] v:=⟨r.row,by rw [List.append_nil];exact r.own,r.ne,Nat.le_refl _,by unfold maxLen;omega⟩
section
variable {w w':World} {g h n c:Nat} {zs:List Value} {v v':BitVec 64}
theorem RSetC.lt (r:RSetC w g h n c zs v):g < w.heap.size∧h < w.heap.size:=⟨(Array.getElem?_eq_some_iff.1 r.row).1,(Array.getElem?_eq_some_iff.1 r.own).1⟩
theorem RSetC.at (r:RSetC w g h n c zs v) (h1:w'.heap[g]?=w.heap[g]?) (h2:w'.heap[h]?=w.heap[h]?):RSetC w' g h n c zs v:=⟨h1.trans r.row,h2.trans r.own,r.ne,r.cap⟩
theorem RSetC.below (r:RSetC w g h n c zs v) (hb:Below w.heap.size w w'):RSetC w' g h n c zs v:=r.at (hb.block _ r.lt.1) (hb.block _ r.lt.2)
theorem RSetC.head (r:RSetC w g h n c zs v):w.cell? ⟨g,0,none⟩=some (.slice (some ⟨h,0,none⟩) n c):=by rw [cell_of_row w _ _ _ _ _ r.row];rfl
theorem RSetC.bit (r:RSetC w g h n c zs v) {i:Nat} (hi:i < n):w.cell? ⟨h,i,none⟩=some (.bool (v.getLsbD i)):=by
 rw [cell_of_row w _ _ _ _ _ r.own,← bvals_at v hi,List.getElem?_toArray,List.getElem?_append_left (by rw [bvals_len];exact hi)]
theorem RSetC.free (r:RSetC w g h n c zs v) (i:Nat):w.frozen? ⟨h,i,none⟩=false:=frozen_of_row w _ _ _ _ r.own
theorem RSetC.set (r:RSetC w g h n c zs v) (i:Nat) (b:Bool) (hi:i < n) (hs:(bvals v n).set i (.bool b)=bvals v' n):RSetC (w.setCell ⟨h,i,none⟩ (.bool b)) g h n c zs v':=by
 refine ⟨?_,?_,r.ne,r.cap⟩
 ·rw [heap_setCell_other w ⟨h,i,none⟩ g _ (fun e=>r.ne e)];exact r.row
 ·rw [heap_setCell_same w h i _ _ _ r.own,← hs]
  simp only [List.setIfInBounds_toArray]
  rw [List.set_append_left (h:=by rw [bvals_len];exact hi)]
end
theorem crhas_any {c0:Nat} {zs:List Value} (g h n:Nat) (v:BitVec 64) (p:Int) (w:World) (r:RSetC w g h n c0 zs v):Calls Tryz.prog 43 #[.pointer (some ⟨g,0,none⟩),.int .i64 p] w fun e w'=>e = .returned (.bool (hasB n v p))∧w=w':=by
 have hd0:=r.head
 by_cases h1:0≤p
 ·obtain ⟨q,rfl⟩:=Int.eq_ofNat_of_zero_le h1
  by_cases h2:q < n
  ·have c1:=r.bit h2
   have he:hasB n v q=v.getLsbD q:=hasB_nat h2
   rw [he];clear r he
   go_enter Tryz.func43,Tryz.ntmps43
   go_wp2
   go_ret
   exact ⟨rfl,rfl⟩
  ·have he:hasB n v q=false:=by unfold hasB;rw [decide_eq_false (by omega:¬ (q:Int) < n)];simp
   rw [he];clear r he
   go_enter Tryz.func43,Tryz.ntmps43
   go_wp2
   go_ret
   exact ⟨rfl,rfl⟩
 ·have he:hasB n v p=false:=by unfold hasB;rw [decide_eq_false h1];rfl
  rw [he];clear r he
  go_enter Tryz.func43,Tryz.ntmps43
  go_wp2
  go_ret
  exact ⟨rfl,rfl⟩
theorem crtake_no {c0:Nat} {zs:List Value} (g h n:Nat) (v:BitVec 64) (w:World) (r:RSetC w g h n c0 zs v) (hn:n≤64) (hf:firstF v n=n) :
  Calls Tryz.prog 28 #[.pointer (some ⟨g,0,none⟩)] w fun e w'=>e = .returned (.tuple #[.int .i64 0,.int .i64 5])∧w=w':=by
 have hd0:=r.head
 have R:=Lib.hid r;have HF:=Lib.hid hf;clear r hf
 go_enter Tryz.func28,Tryz.ntmps28
 go_wp2
 go_loop [4] (fun i=>∃ k:Nat,k≤n∧i = .int .i64 k) (fun i=>n - (intOf i).toNat)
 case atStart=>exact ⟨0,by omega,rfl⟩
 case round=>
  obtain ⟨k,hk,rfl⟩:=hrel
  by_cases hp:k < n
  ·have c1:=R.out.bit hp
   rw [firstF_below v n k (by rw [HF.out];exact hp)] at c1
   go_wp2
   go_round
   case rel=>exact ⟨k+1,by omega,by go_num⟩
   case measure=>simp [intOf] <;> omega
  ·go_wp2
   go_ret2
   exact ⟨rfl,rfl⟩
theorem crtake_yes {c0:Nat} {zs:List Value} (g h n k0:Nat) (v:BitVec 64) (w:World) (r:RSetC w g h n c0 zs v) (hn:n≤64) (hf:firstF v n=k0) (hk0:k0 < n) :
  Calls Tryz.prog 28 #[.pointer (some ⟨g,0,none⟩)] w fun e w'=>e = .returned (.tuple #[.int .i64 k0,.int .i64 0])∧RSetC w' g h n c0 zs (v ||| qbit k0)∧w.grownBy w' (some h):=by
 have hd0:=r.head
 have R:=Lib.hid r;have HF:=Lib.hid hf;clear r hf
 go_enter Tryz.func28,Tryz.ntmps28
 go_wp2
 go_loop [4] (fun i=>∃ k:Nat,k≤k0∧i = .int .i64 k) (fun i=>n - (intOf i).toNat)
 case atStart=>exact ⟨0,by omega,rfl⟩
 case round=>
  obtain ⟨k,hk,rfl⟩:=hrel
  by_cases hp:k < k0
  ·have c1:=R.out.bit (i:=k) (by omega)
   rw [firstF_below v n k (by rw [HF.out];exact hp)] at c1
   go_wp2
   go_round
   case rel=>exact ⟨k+1,by omega,by go_num⟩
   case measure=>simp [intOf] <;> omega
  ·have HE:Hid (k=k0):=by show _=_;omega
   have hkn:k < n:=by omega
   have c1:=R.out.bit hkn
   have hbf:=firstF_at v n (by rw [HF.out];exact hk0)
   rw [HF.out,← HE.out] at hbf;rw [hbf] at c1
   have cf:=R.out.free k
   have HS:=Lib.hid (bvals_put v hn hkn)
   clear hbf
   go_wp2
   go_ret2
   refine ⟨by rw [← HE.out];rfl,?_,set_grown _ _ _ _⟩
   rw [← HE.out]
   exact R.out.set _ _ (by omega) HS.out
theorem crfree_yes {c0:Nat} {zs:List Value} (g h n:Nat) (v:BitVec 64) (p:Nat) (w:World) (r:RSetC w g h n c0 zs v) (hn:n≤64) (hb:hasB n v p=true) :
  Calls Tryz.prog 33 #[.pointer (some ⟨g,0,none⟩),.int .i64 p] w fun e w'=>e = .returned (.int .i64 0)∧RSetC w' g h n c0 zs (v &&& ~~~ qbit p)∧w.grownBy w' (some h):=by
 have hp:(p:Int) < n:=by
  unfold hasB at hb
  simp only [Bool.and_eq_true,decide_eq_true_eq] at hb
  exact hb.2.1
 have hpn:p < n:=by omega
 have hd0:=r.head
 have c1:=r.bit hpn
 have cf:=r.free p
 have R:=Lib.hid r
 have HS:=Lib.hid (bvals_drop v hn hpn)
 clear r
 go_enter Tryz.func33,Tryz.ntmps33
 go_wp2_with (go_at_call 43;refine (crhas_any _ _ _ _ _ _ R.out).mono ?_;rintro e w' ⟨rfl,rfl⟩)
 go_ret
 exact ⟨rfl,R.out.set _ _ (by omega) HS.out,set_grown _ _ _ _⟩
theorem crlist_any {c0:Nat} {zs:List Value} (g h n:Nat) (v:BitVec 64) (w:World) (r:RSetC w g h n c0 zs v) (hn:n≤64) :
  Calls Tryz.prog 29 #[.pointer (some ⟨g,0,none⟩)] w (GivesPids (pidsK v n) w):=by
 have R:=Lib.hid r;clear r
 go_enter Tryz.func29,Tryz.ntmps29
 go_wp2_with fail
 go_loopw [3,4] (fun x i wr=>∃ k:Nat,k≤n∧i = .int .i64 k∧Owns .i64 3 wr w.heap.size x (pidsK v k)∧Below w.heap.size w wr) (fun _ i _=>n - (intOf i).toNat)
 case atStart=>exact ⟨0,by omega,rfl,Owns.nil _ _ _ _,Below.refl _ _⟩
 case round=>
  obtain ⟨k,hk,rfl,ow,hb⟩:=hrel
  have R1:=Lib.hid (R.out.below hb)
  have hd0:=R1.out.head
  have hsz:=hb.size
  have hpk:=pidsK_le v k
  obtain ⟨q,hq⟩:∃ q,(pidsK v k).length=q:=⟨_,rfl⟩
  obtain ⟨a,c,rfl⟩:=ow.shapeN q hq
  rw [hq] at hpk;have HQ:=Lib.hid hq;have OW:=Lib.hid ow;clear ow hq
  by_cases hp:k < n
  ·have c1:=R1.out.bit hp
   by_cases hb1:v.getLsbD k=true
   ·rw [hb1] at c1
    have HX:Hid (pidsK v (k+1)=pidsK v k ++ [(k:Int)]):=by show _=_;rw [pidsK,if_pos hb1]
    clear hb1
    go_wp2_with (at_builtin;refine app_one i64T i64I (by decide) rfl (.tmp 21) (.tmp 23) rfl _ w.heap.size _ (pidsK v k) rfl OW.out _ rfl (WalkArith.wf_i64 (by omega)) (by rw [HQ.out];omega) (by omega) ?_;intro v2 w2 ho2 hg2)
    have hb2:Below w.heap.size w w2:=hb.trans (hg2.below hsz (fun g hg=>(OW.out.at_base g hg).1))
    go_roundw
    case rel=>exact ⟨k+1,by omega,by go_num,by rw [HX.out];exact ho2,hb2⟩
    case measure=>simp [intOf] <;> omega
   ·rw [Bool.not_eq_true] at hb1
    rw [hb1] at c1
    have HX:Hid (pidsK v (k+1)=pidsK v k):=by show _=_;rw [pidsK,if_neg (by rw [hb1];decide)]
    clear hb1;go_wp2_with fail
    go_roundw
    case rel=>exact ⟨k+1,by omega,by go_num,by rw [HX.out];exact OW.out,hb⟩
    case measure=>simp [intOf] <;> omega
  ·obtain rfl:k=n:=by omega
   go_wp2_with fail
   go_ret
   exact ⟨_,rfl,OW.out,hb⟩
theorem Owns.cellAt {k:IntKind} {e:TypeId} {w:World} {base:Nat} {a:Option Addr} {n c:Nat} {l:List Int} (h:Owns k e w base (.slice a n c) l) (i:Nat) (hi:i < l.length) :
  ∃ g,a=some ⟨g,0,none⟩∧base≤g∧g < w.heap.size∧w.cell? ⟨g,i,none⟩=some (.int k (nth l i))∧w.frozen? ⟨g,i,none⟩=false:=by
 rcases h.2 with ⟨rfl,_⟩ | h2
 ·simp at hi
 ·have h3:=h2
  rcases h3.2 with ⟨hv,hn⟩ | ⟨g,cap,cur,hv,hb,hg,_⟩
  ·omega
  ·injection hv with q1 q2 q3
   subst q1 q2 q3
   refine ⟨g,rfl,hb,(Array.getElem?_eq_some_iff.1 hg).1,?_,h2.frozenAt i⟩
   rw [h2.cellAt i (by omega),List.getElem?_map,List.getElem?_eq_getElem hi,nth_eq hi];rfl
theorem Owns.stored {k:IntKind} {e:TypeId} {w:World} {base:Nat} {g n c:Nat} {l:List Int} (h:Owns k e w base (.slice (some ⟨g,0,none⟩) n c) l) (i:Nat) (x:Int) (hx:(Lit.int k x).wf=true) :
  Owns k e (w.setCell ⟨g,i,none⟩ (.int k x)) base (.slice (some ⟨g,0,none⟩) n c) (l.set i x):=by
 refine ⟨fun y hy=>?_,?_⟩
 ·rcases List.mem_or_eq_of_mem_set hy with hy | hy
  ·exact h.1 y hy
  ·rw [hy];exact hx
 ·rcases h.2 with ⟨rfl,a,hv,ha⟩ | h2
  ·exact .inl ⟨rfl,a,hv,ha⟩
  ·refine .inr ?_
   obtain ⟨a',c',hv⟩:=h.shape
   injection hv with q1 q2 q3
   subst q2
   have:=(h2.stored i (.int k x)).1
   rw [List.length_set,List.map_set]
   exact this
/-- A page's entry: its number, its bytes' block, how many, how much room. -/
structure PgE where
 n:Int
 b:Nat
 l:Nat
 c:Nat
def PgE.cells (x:PgE):List Value:=[.int .i64 x.n,.slice (some ⟨x.b,0,none⟩) x.l x.c]
theorem pgEC:Cellular PgE.cells 2:=⟨fun _=>rfl,fun x u hu=>by
 simp only [PgE.cells,List.mem_cons,List.not_mem_nil,or_false] at hu
 rcases hu with rfl | rfl <;> rfl,by decide⟩
theorem pgEI:(Tryz.prog.info? 84).map (fun i=>(i.zero,i.size,i.bytes))=some (some (.agg #[.int .i64 0,.slice none 0 0]),2,32):=by kernel_rfl
/-- Where a process lies: its block, its pages' blocks and their room. -/
structure PrH where
 b:Nat
 q:Int→Nat
 cp:Int→Nat
instance:Inhabited PrH:=⟨⟨0,fun _=>0,fun _=>0⟩⟩
def PrH.own (H:PrH) (L:List (Int × List Int)) (k:Nat):Prop:=k=H.b∨∃ x ∈ L,k=H.q x.1
def prE (H:PrH) (x:Int × List Int):PgE:=⟨x.1,H.q x.1,x.2.length,H.cp x.1⟩
def prL (H:PrH) (L:List (Int × List Int)):List PgE:=L.map (prE H)
theorem prL_len (H:PrH) (L:List (Int × List Int)):(prL H L).length=L.length:=by unfold prL;rw [List.length_map]
/-- A slice that is read, whose row is none of those that may turn. -/
def SlV {α:Type} (m:α→List Value) (k:Nat) (w:World) (No:Nat→Prop) (a:Option Addr) (n c:Nat) (L:List α):Prop:=RdS m k w a n c L∧∀ x,a=some x→0 < n→¬ No x.block
theorem SlV.tn {α:Type} {m:α→List Value} {k:Nat} {w w':World} {No Q:Nat→Prop} {a:Option Addr} {n c:Nat} {L:List α} (h:SlV m k w No a n c L) (t:Tn Q w w') (hq:∀ k,Q k→No k):SlV m k w' No a n c L:=
 ⟨h.1.tn t (fun x hx h0 hk=>h.2 x hx h0 (hq _ hk)),h.2⟩
theorem SlV.reno {α:Type} {m:α→List Value} {k:Nat} {w:World} {No No':Nat→Prop} {a:Option Addr} {n c:Nat} {L:List α} (C:Cellular m k) (h:SlV m k w No a n c L) (hq:∀ k,k < w.heap.size→No' k→No k):SlV m k w No' a n c L:=
 ⟨h.1,fun x hx h0 hk=>h.2 x hx h0 (hq _ (h.1.lt C x hx h0) hk)⟩
theorem OwnsS.slV {α:Type} {m:α→List Value} {k:Nat} {e:TypeId} {w:World} {base:Nat} {a:Option Addr} {n c:Nat} {L:List α} {No:Nat→Prop} (C:Cellular m k) (h:OwnsS m k e w base (.slice a n c) L) (hn:∀ k,No k→k < base):SlV m k w No a n c L:=by
 have hrd:=h.rd C
 refine ⟨hrd,fun x hx h0 hk=>?_⟩
 have h1:=hn _ hk
 rcases h with ⟨hl,_⟩ | ⟨_,⟨hv,hz⟩ | ⟨g,cap,cur,hv,hb,_⟩⟩
 ·have:=hrd.len;rw [hl] at this;simp at this;omega
 ·injection hv with e1 e2 e3;omega
 ·injection hv with e1 e2 e3
  rw [hx] at e1
  injection e1 with e1
  rw [e1] at h1
  replace h1:g < base:=h1
  omega
/-- A process. -/
structure PrIn (w:World) (No:Nat→Prop) (H:PrH) (R:List Rg) (L:List (Int × List Int)):Prop where
 row:∃ ra rn rc la lc,w.heap[H.b]?=some (.cells #[.slice ra rn rc,.slice la L.length lc] 80 (0,0))∧SlV Rg.cells 3 w No ra rn rc R∧SlV PgE.cells 2 w No la L.length lc (prL H L)
 pg:∀ x ∈ L,Owns .u8 5 w 0 (.slice (some ⟨H.q x.1,0,none⟩) x.2.length (H.cp x.1)) x.2
 inj:∀ x ∈ L,∀ y ∈ L,H.q x.1=H.q y.1→x.1=y.1
 ne:∀ x ∈ L,H.q x.1 ≠ H.b
 no:∀ k,H.own L k→No k
theorem owns_tn0 {k:IntKind} {e:TypeId} {w w':World} {base g n c:Nat} {l:List Int} {Q:Nat→Prop} (h:Owns k e w base (.slice (some ⟨g,0,none⟩) n c) l) (t:Tn Q w w') (hq:¬ Q g):Owns k e w' base (.slice (some ⟨g,0,none⟩) n c) l:=by
 obtain ⟨hw,h⟩:=h
 rcases h with h | ⟨h1,h2 | ⟨g',cap,cur,hv,hb,hh,hr⟩⟩
 ·exact ⟨hw,.inl h⟩
 ·exact ⟨hw,.inr ⟨h1,.inl h2⟩⟩
 ·have e:g=g':=by injection hv with e1;injection e1 with e1;injection e1
  exact ⟨hw,.inr ⟨h1,.inr ⟨g',cap,cur,hv,hb,row_tn hh t (by rw [← e];exact hq),hr⟩⟩⟩
theorem PrIn.tn {w w':World} {No Q:Nat→Prop} {H:PrH} {R:List Rg} {L:List (Int × List Int)} (p:PrIn w No H R L) (t:Tn Q w w') (hq:∀ k,Q k→No k∧¬ H.own L k):PrIn w' No H R L:=by
 obtain ⟨ra,rn,rc,la,lc,h1,h2,h3⟩:=p.row
 have q0:∀ k,Q k→No k:=fun k hk=>(hq k hk).1
 exact ⟨⟨ra,rn,rc,la,lc,row_tn h1 t (fun hk=>(hq _ hk).2 (.inl rfl)),h2.tn t q0,h3.tn t q0⟩,fun x hx=>owns_tn0 (p.pg x hx) t (fun hk=>(hq _ hk).2 (.inr ⟨x,hx,rfl⟩)),p.inj,p.ne,p.no⟩
theorem PrIn.reno {w:World} {No No':Nat→Prop} {H:PrH} {R:List Rg} {L:List (Int × List Int)} (p:PrIn w No H R L) (h1:∀ k,No k→No' k) (h2:∀ k,k < w.heap.size→No' k→No k):PrIn w No' H R L:=by
 obtain ⟨ra,rn,rc,la,lc,e1,e2,e3⟩:=p.row
 exact ⟨⟨ra,rn,rc,la,lc,e1,e2.reno rgC h2,e3.reno pgEC h2⟩,p.pg,p.inj,p.ne,fun k hk=>h1 k (p.no k hk)⟩
/-- Fewer blocks that may turn. -/
theorem PrIn.less {w:World} {No No':Nat→Prop} {H:PrH} {R:List Rg} {L:List (Int × List Int)} (p:PrIn w No' H R L) (h1:∀ k,No k→No' k) (h2:∀ k,H.own L k→No k):PrIn w No H R L:=by
 obtain ⟨ra,rn,rc,la,lc,e1,e2,e3⟩:=p.row
 exact ⟨⟨ra,rn,rc,la,lc,e1,e2.reno rgC (fun k _ hk=>h1 k hk),e3.reno pgEC (fun k _ hk=>h1 k hk)⟩,p.pg,p.inj,p.ne,h2⟩
/-- Where a machine lies. -/
structure RmH where
 m:Nat
 s:Nat
 sl:Nat
 p:Nat
 pr:Int→PrH
def RmH.own (h:RmH) (st:Mc) (k:Nat):Prop:=k=h.sl∨k=h.p∨∃ q,st.has q=true∧(h.pr q).own (st.ms q) k
def prV (h:RmH) (st:Mc) (q:Int):Value:=if st.has q=true then .pointer (some ⟨(h.pr q).b,0,none⟩) else .pointer none
def prRow (h:RmH) (st:Mc):List Value:=(List.range st.pr).map fun (k:Nat)=>prV h st (k:Int)
def rmRow (h:RmH) (st:Mc):Obj:=.cells #[.int .i64 st.c.a0,.int .i64 st.c.a1,.int .i64 st.c.a2,.int .i64 st.c.a3,.int .i64 st.c.page,.int .i64 st.c.a5,.int .i64 st.c.procs,.int .i64 st.c.regions,.int .i64 st.c.pages,.pointer (some ⟨h.s,0,none⟩),.slice (some ⟨h.p,0,none⟩) st.pr st.pr] 69 (0,0)
structure RmIn (w:World) (No:Nat→Prop) (h:RmH) (st:Mc):Prop where
 row:w.heap[h.m]?=some (rmRow h st)
 set:∃ c zs,RSetC w h.s h.sl st.pr c zs st.v
 prow:w.heap[h.p]?=some (.cells (prRow h st).toArray 72 (0,0))
 pr:∀ q,st.has q=true→PrIn w No (h.pr q) (st.rs q) (st.ms q)
 ok:McOk st
 no:No h.sl∧No h.p∧¬ No h.m∧¬ No h.s
 ap:∀ q q' k,st.has q=true→st.has q'=true→(h.pr q).own (st.ms q) k→(h.pr q').own (st.ms q') k→q=q'
 ne:h.sl ≠ h.p∧∀ q,st.has q=true→¬ (h.pr q).own (st.ms q) h.sl∧¬ (h.pr q).own (st.ms q) h.p
 lt:∀ k,No k→k < w.heap.size
section
variable {w w':World} {No No' Q:Nat→Prop} {h:RmH} {st:Mc}
theorem RmIn.own_no (i:RmIn w No h st):∀ k,h.own st k→No k:=by
 rintro k (e | e | ⟨q,hq,hk⟩)
 ·rw [e];exact i.no.1
 ·rw [e];exact i.no.2.1
 ·exact (i.pr q hq).no k hk
theorem RmIn.tn (i:RmIn w No h st) (t:Tn Q w w') (hq:∀ k,Q k→No k∧¬ h.own st k):RmIn w' No h st:=by
 obtain ⟨c,zs,hs⟩:=i.set
 have qm:¬ Q h.m:=fun hk=>i.no.2.2.1 (hq _ hk).1
 have qs:¬ Q h.s:=fun hk=>i.no.2.2.2 (hq _ hk).1
 have ql:¬ Q h.sl:=fun hk=>(hq _ hk).2 (.inl rfl)
 have qp:¬ Q h.p:=fun hk=>(hq _ hk).2 (.inr (.inl rfl))
 exact ⟨row_tn i.row t qm,⟨c,zs,hs.at (t.block _ hs.lt.1 qs) (t.block _ hs.lt.2 ql)⟩,row_tn i.prow t qp,fun q h1=>(i.pr q h1).tn t (fun k hk=>⟨(hq k hk).1,fun h2=>(hq k hk).2 (.inr (.inr ⟨q,h1,h2⟩))⟩),i.ok,i.no,i.ap,i.ne,fun k hk=>Nat.lt_of_lt_of_le (i.lt k hk) t.size⟩
theorem RmIn.below (i:RmIn w No h st) (b:Below w.heap.size w w'):RmIn w' No h st:=i.tn (Tn.of (Q:=fun _=>False) b) (fun _ h=>h.elim)
theorem RmIn.more (i:RmIn w No h st) (b:Below w.heap.size w w') (h1:∀ k,No k→No' k) (h2:∀ k,No' k→No k∨w.heap.size≤k) (h3:∀ k,No' k→k < w'.heap.size):RmIn w' No' h st:=by
 have q:∀ k,k < w.heap.size→No' k→No k:=fun k hk hn=>by
  rcases h2 k hn with h | h
  ·exact h
  ·omega
 have hm:h.m < w.heap.size:=(Array.getElem?_eq_some_iff.1 i.row).1
 obtain ⟨c,zs,hs⟩:=i.set
 have j:=i.below b
 exact ⟨j.row,j.set,j.prow,fun p hp=>((i.pr p hp).reno h1 q).tn (Tn.of (Q:=fun _=>False) b) (fun _ h=>h.elim),i.ok,⟨h1 _ i.no.1,h1 _ i.no.2.1,fun hk=>i.no.2.2.1 (q _ hm hk),fun hk=>i.no.2.2.2 (q _ hs.lt.1 hk)⟩,i.ap,i.ne,h3⟩
theorem RmIn.less (i:RmIn w No' h st) (h1:∀ k,No k→No' k) (h2:∀ k,h.own st k→No k):RmIn w No h st:=
 ⟨i.row,i.set,i.prow,fun q hq=>(i.pr q hq).less h1 (fun k hk=>h2 k (.inr (.inr ⟨q,hq,hk⟩))),i.ok,⟨h2 _ (.inl rfl),h2 _ (.inr (.inl rfl)),fun hk=>i.no.2.2.1 (h1 _ hk),fun hk=>i.no.2.2.2 (h1 _ hk)⟩,i.ap,i.ne,fun k hk=>i.lt k (h1 k hk)⟩
theorem RmIn.cells (i:RmIn w No h st):w.cell? ⟨h.m,4,none⟩=some (.int .i64 st.c.page)∧w.cell? ⟨h.m,6,none⟩=some (.int .i64 st.c.procs)∧w.cell? ⟨h.m,7,none⟩=some (.int .i64 st.c.regions)∧w.cell? ⟨h.m,8,none⟩=some (.int .i64 st.c.pages) ∧
  w.cell? ⟨h.m,9,none⟩=some (.pointer (some ⟨h.s,0,none⟩))∧w.cell? ⟨h.m,10,none⟩=some (.slice (some ⟨h.p,0,none⟩) st.pr st.pr):=by
 have r:=i.row
 unfold rmRow at r
 exact ⟨cell_of_row w h.m 4 _ _ _ r,cell_of_row w h.m 6 _ _ _ r,cell_of_row w h.m 7 _ _ _ r,cell_of_row w h.m 8 _ _ _ r,cell_of_row w h.m 9 _ _ _ r,cell_of_row w h.m 10 _ _ _ r⟩
theorem RmIn.ptr (i:RmIn w No h st) {q:Int} (hq:st.has q=true):∃ k:Nat,q=(k:Int)∧k < st.pr∧w.cell? ⟨h.p,k,none⟩=some (.pointer (some ⟨(h.pr q).b,0,none⟩)):=by
 have hr:=hq
 unfold Mc.has hasB at hr
 have hpr:=i.ok.prI
 simp at hr
 refine ⟨q.toNat,by omega,by omega,?_⟩
 rw [cell_of_row w _ _ _ _ _ i.prow]
 unfold prRow
 rw [List.getElem?_toArray,List.getElem?_map,List.getElem?_range (by omega)]
 show some (prV h st ((q.toNat:Nat):Int))=_
 rw [show ((q.toNat:Nat):Int)=q by omega]
 unfold prV
 rw [if_pos hq]
theorem RmIn.ptr_no (i:RmIn w No h st) {k:Nat} (hk:k < st.pr) (hq:st.has (k:Int)=false):w.cell? ⟨h.p,k,none⟩=some (.pointer none):=by
 rw [cell_of_row w _ _ _ _ _ i.prow]
 unfold prRow
 rw [List.getElem?_toArray,List.getElem?_map,List.getElem?_range hk]
 show some (prV h st (k:Int))=_
 unfold prV
 rw [if_neg (by rw [hq];decide)]
end
section
variable {w w':World} {No No':Nat→Prop} {h:RmH} {st:Mc} {q:Int} {H':PrH} {R':List Rg} {L':List (Int × List Int)}
theorem RmIn.own_lt (i:RmIn w No h st) {q:Int} (hq:st.has q=true) {k:Nat} (hk:(h.pr q).own (st.ms q) k):k < w.heap.size:=i.lt k ((i.pr q hq).no k hk)
theorem RmIn.proc (i:RmIn w No h st) (hq:st.has q=true) (t:Tn ((h.pr q).own (st.ms q)) w w') (p:PrIn w' No' H' R' L')
  (ok:McOk { st with rs:=upd st.rs q R',ms:=upd st.ms q L' }) (hb:H'.b=(h.pr q).b) (ho:∀ k,H'.own L' k→(h.pr q).own (st.ms q) k∨w.heap.size≤k)
  (h1:∀ k,No k→No' k) (h2:∀ k,No' k→No k∨w.heap.size≤k) (h3:∀ k,No' k→k < w'.heap.size) :
  RmIn w' No' { h with pr:=upd h.pr q H' } { st with rs:=upd st.rs q R',ms:=upd st.ms q L' }:=by
 have hno:=(i.pr q hq).no
 have hr:∀ k,k < w.heap.size→No' k→No k:=fun k hk hn=>by
  rcases h2 k hn with h | h
  ·exact h
  ·omega
 obtain ⟨c,zs,hs⟩:=i.set
 have hm:h.m < w.heap.size:=(Array.getElem?_eq_some_iff.1 i.row).1
 have qm:¬ (h.pr q).own (st.ms q) h.m:=fun hk=>i.no.2.2.1 (hno _ hk)
 have qs:¬ (h.pr q).own (st.ms q) h.s:=fun hk=>i.no.2.2.2 (hno _ hk)
 have ql:=(i.ne.2 q hq).1
 have qp:=(i.ne.2 q hq).2
 have hprv:prRow { h with pr:=upd h.pr q H' } { st with rs:=upd st.rs q R',ms:=upd st.ms q L' }=prRow h st:=by
  unfold prRow
  refine List.map_congr_left (fun k _=>?_)
  unfold prV
  by_cases e:(k:Int)=q
  ·subst e
   show (if st.has k=true then Value.pointer (some ⟨(upd h.pr k H' k).b,0,none⟩) else _)=_
   rw [upd_same,hb]
  ·show (if st.has k=true then Value.pointer (some ⟨(upd h.pr q H' k).b,0,none⟩) else _)=_
   rw [upd_other _ _ e]
 refine ⟨row_tn i.row t qm,⟨c,zs,hs.at (t.block _ hs.lt.1 qs) (t.block _ hs.lt.2 ql)⟩,?_,?_,ok,⟨h1 _ i.no.1,h1 _ i.no.2.1,fun hk=>i.no.2.2.1 (hr _ hm hk),fun hk=>i.no.2.2.2 (hr _ hs.lt.1 hk)⟩,?_,⟨i.ne.1,?_⟩,h3⟩
 ·rw [hprv]
  exact row_tn i.prow t qp
 ·intro p' hp'
  by_cases e:p'=q
  ·subst e
   show PrIn w' No' (upd h.pr p' H' p') (upd st.rs p' R' p') (upd st.ms p' L' p')
   rw [upd_same,upd_same,upd_same]
   exact p
  ·show PrIn w' No' (upd h.pr q H' p') (upd st.rs q R' p') (upd st.ms q L' p')
   rw [upd_other _ _ e,upd_other _ _ e,upd_other _ _ e]
   refine ((i.pr p' hp').reno h1 hr).tn t (fun k hk=>⟨h1 _ (hno k hk),fun h4=>e (i.ap _ _ k hp' hq h4 hk)⟩)
 ·intro p1 p2 k e1 e2 o1 o2
  have f1:(p1=q∧H'.own L' k)∨(p1 ≠ q∧(h.pr p1).own (st.ms p1) k):=by
   by_cases e:p1=q
   ·subst e
    change (upd h.pr p1 H' p1).own (upd st.ms p1 L' p1) k at o1
    rw [upd_same,upd_same] at o1
    exact .inl ⟨rfl,o1⟩
   ·change (upd h.pr q H' p1).own (upd st.ms q L' p1) k at o1
    rw [upd_other _ _ e,upd_other _ _ e] at o1
    exact .inr ⟨e,o1⟩
  have f2:(p2=q∧H'.own L' k)∨(p2 ≠ q∧(h.pr p2).own (st.ms p2) k):=by
   by_cases e:p2=q
   ·subst e
    change (upd h.pr p2 H' p2).own (upd st.ms p2 L' p2) k at o2
    rw [upd_same,upd_same] at o2
    exact .inl ⟨rfl,o2⟩
   ·change (upd h.pr q H' p2).own (upd st.ms q L' p2) k at o2
    rw [upd_other _ _ e,upd_other _ _ e] at o2
    exact .inr ⟨e,o2⟩
  rcases f1 with ⟨a1,b1⟩ | ⟨a1,b1⟩ <;> rcases f2 with ⟨a2,b2⟩ | ⟨a2,b2⟩
  ·rw [a1,a2]
  ·rcases ho k b1 with g | g
   ·exact absurd (i.ap _ _ k e2 hq b2 g) a2
   ·have:=i.own_lt e2 b2;omega
  ·rcases ho k b2 with g | g
   ·exact absurd (i.ap _ _ k e1 hq b1 g) a1
   ·have:=i.own_lt e1 b1;omega
  ·exact i.ap _ _ k e1 e2 b1 b2
 ·intro p' hp'
  by_cases e:p'=q
  ·subst e
   show ¬ (upd h.pr p' H' p').own (upd st.ms p' L' p') h.sl∧¬ (upd h.pr p' H' p').own (upd st.ms p' L' p') h.p
   rw [upd_same,upd_same]
   refine ⟨fun hk=>?_,fun hk=>?_⟩
   ·rcases ho _ hk with g | g
    ·exact ql g
    ·have:=i.lt _ i.no.1;omega
   ·rcases ho _ hk with g | g
    ·exact qp g
    ·have:=i.lt _ i.no.2.1;omega
  ·show ¬ (upd h.pr q H' p').own (upd st.ms q L' p') h.sl∧¬ (upd h.pr q H' p').own (upd st.ms q L' p') h.p
   rw [upd_other _ _ e,upd_other _ _ e]
   exact i.ne.2 p' hp'
/-- What a turned machine owns. -/
theorem RmIn.proc_own (hq:st.has q=true) (ho:∀ k,H'.own L' k→(h.pr q).own (st.ms q) k∨w.heap.size≤k):∀ k,RmH.own { h with pr:=upd h.pr q H' } { st with rs:=upd st.rs q R',ms:=upd st.ms q L' } k→h.own st k∨w.heap.size≤k:=by
 rintro k (e | e | ⟨p,hp,hk⟩)
 ·exact .inl (.inl e)
 ·exact .inl (.inr (.inl e))
 ·by_cases e:p=q
  ·subst e
   change (upd h.pr p H' p).own (upd st.ms p L' p) k at hk
   rw [upd_same,upd_same] at hk
   rcases ho k hk with g | g
   ·exact .inl (.inr (.inr ⟨p,hq,g⟩))
   ·exact .inr g
  ·change (upd h.pr q H' p).own (upd st.ms q L' p) k at hk
   rw [upd_other _ _ e,upd_other _ _ e] at hk
   exact .inl (.inr (.inr ⟨p,hp,hk⟩))
end
section
variable {w w':World} {No No':Nat→Prop} {h:RmH} {st:Mc} {q:Int} {H':PrH} {R':List Rg} {L':List (Int × List Int)}
theorem prRow_set {h h':RmH} {st st':Mc} {k0:Nat} {v:Value} (hpr:st'.pr=st.pr) (h0:prV h' st' k0=v) (h1:∀ k:Nat,k ≠ k0→prV h' st' k=prV h st k):(prRow h st).set k0 v=prRow h' st':=by
 refine List.ext_getElem? (fun j=>?_)
 unfold prRow
 rw [List.getElem?_set,List.length_map,List.length_range,List.getElem?_map,List.getElem?_map,hpr]
 by_cases e:k0=j
 ·subst e
  rw [if_pos rfl]
  by_cases hj:k0 < st.pr
  ·rw [if_pos hj,List.getElem?_range hj,Option.map_some,h0]
  ·rw [if_neg hj,List.getElem?_eq_none (by rw [List.length_range];omega)];rfl
 ·rw [if_neg e]
  by_cases hj:j < st.pr
  ·rw [List.getElem?_range hj,Option.map_some,Option.map_some,h1 j (fun e2=>e e2.symm)]
  ·rw [List.getElem?_eq_none (by rw [List.length_range];omega)];rfl
theorem RmIn.made (i:RmIn w No h st) {k0:Nat} {v':BitVec 64} {c:Nat} {zs:List Value} (t:Tn (fun k=>k=h.sl∨k=h.p) w w') (hs:RSetC w' h.s h.sl st.pr c zs v')
  (hp:w'.heap[h.p]?=some (.cells ((prRow h st).set k0 (.pointer (some ⟨H'.b,0,none⟩))).toArray 72 (0,0))) (p:PrIn w' No' H' R' L')
  (hv:∀ q,Mc.has { st with v:=v',rs:=upd st.rs k0 R',ms:=upd st.ms k0 L' } q=(st.has q || decide (q=k0)))
  (ok:McOk { st with v:=v',rs:=upd st.rs k0 R',ms:=upd st.ms k0 L' }) (ho:∀ k,H'.own L' k→w.heap.size≤k)
  (h1:∀ k,No k→No' k) (h2:∀ k,No' k→No k∨w.heap.size≤k) (h3:∀ k,No' k→k < w'.heap.size) :
  RmIn w' No' { h with pr:=upd h.pr k0 H' } { st with v:=v',rs:=upd st.rs k0 R',ms:=upd st.ms k0 L' }:=by
 have hr:∀ k,k < w.heap.size→No' k→No k:=fun k hk hn=>by
  rcases h2 k hn with h | h
  ·exact h
  ·omega
 obtain ⟨c',zs',hs'⟩:=i.set
 have hm:h.m < w.heap.size:=(Array.getElem?_eq_some_iff.1 i.row).1
 have old:∀ q,q ≠ (k0:Int)→Mc.has { st with v:=v',rs:=upd st.rs k0 R',ms:=upd st.ms k0 L' } q=st.has q:=fun q e=>by rw [hv];simp [e]
 have new:Mc.has { st with v:=v',rs:=upd st.rs k0 R',ms:=upd st.ms k0 L' } (k0:Int)=true:=by rw [hv];simp
 have qm:¬ (h.m=h.sl∨h.m=h.p):=fun e=>by
  rcases e with e | e
  ·exact i.no.2.2.1 (by rw [e];exact i.no.1)
  ·exact i.no.2.2.1 (by rw [e];exact i.no.2.1)
 refine ⟨row_tn i.row t qm,⟨c,zs,hs⟩,?_,?_,ok,⟨h1 _ i.no.1,h1 _ i.no.2.1,fun hk=>i.no.2.2.1 (hr _ hm hk),fun hk=>i.no.2.2.2 (hr _ hs'.lt.1 hk)⟩,?_,⟨i.ne.1,?_⟩,h3⟩
 ·refine hp.trans (congrArg (fun l:List Value=>some (Obj.cells l.toArray 72 (0,0))) (prRow_set rfl ?_ ?_))
  ·unfold prV
   rw [if_pos new]
   show Value.pointer (some ⟨(upd h.pr k0 H' k0).b,0,none⟩)=_
   rw [upd_same]
  ·intro k hk
   have e:(k:Int) ≠ k0:=by omega
   unfold prV
   rw [old _ e]
   show (if st.has k=true then Value.pointer (some ⟨(upd h.pr k0 H' k).b,0,none⟩) else _)=_
   rw [upd_other _ _ e]
 ·intro p' hp'
  by_cases e:p'=k0
  ·subst e
   show PrIn w' No' (upd h.pr k0 H' k0) (upd st.rs k0 R' k0) (upd st.ms k0 L' k0)
   rw [upd_same,upd_same,upd_same]
   exact p
  ·rw [old _ e] at hp'
   show PrIn w' No' (upd h.pr k0 H' p') (upd st.rs k0 R' p') (upd st.ms k0 L' p')
   rw [upd_other _ _ e,upd_other _ _ e,upd_other _ _ e]
   refine ((i.pr p' hp').reno h1 hr).tn t (fun k hk=>?_)
   rcases hk with rfl | rfl
   ·exact ⟨h1 _ i.no.1,(i.ne.2 p' hp').1⟩
   ·exact ⟨h1 _ i.no.2.1,(i.ne.2 p' hp').2⟩
 ·intro p1 p2 k e1 e2 o1 o2
  have f:∀ {p1:Int},Mc.has { st with v:=v',rs:=upd st.rs k0 R',ms:=upd st.ms k0 L' } p1=true→(upd h.pr k0 H' p1).own (upd st.ms k0 L' p1) k→(p1=k0∧H'.own L' k)∨(st.has p1=true∧(h.pr p1).own (st.ms p1) k):=by
   intro p1 e1 o1
   by_cases e:p1=k0
   ·subst e
    rw [upd_same,upd_same] at o1
    exact .inl ⟨rfl,o1⟩
   ·rw [upd_other _ _ e,upd_other _ _ e] at o1
    exact .inr ⟨by rw [← old _ e];exact e1,o1⟩
  rcases f e1 o1 with ⟨a1,b1⟩ | ⟨a1,b1⟩ <;> rcases f e2 o2 with ⟨a2,b2⟩ | ⟨a2,b2⟩
  ·rw [a1,a2]
  ·have:=ho k b1;have:=i.own_lt a2 b2;omega
  ·have:=ho k b2;have:=i.own_lt a1 b1;omega
  ·exact i.ap _ _ k a1 a2 b1 b2
 ·intro p' hp'
  by_cases e:p'=k0
  ·subst e
   show ¬ (upd h.pr k0 H' k0).own (upd st.ms k0 L' k0) h.sl∧¬ (upd h.pr k0 H' k0).own (upd st.ms k0 L' k0) h.p
   rw [upd_same,upd_same]
   refine ⟨fun hk=>?_,fun hk=>?_⟩
   ·have:=ho _ hk;have:=i.lt _ i.no.1;omega
   ·have:=ho _ hk;have:=i.lt _ i.no.2.1;omega
  ·rw [old _ e] at hp'
   show ¬ (upd h.pr k0 H' p').own (upd st.ms k0 L' p') h.sl∧¬ (upd h.pr k0 H' p').own (upd st.ms k0 L' p') h.p
   rw [upd_other _ _ e,upd_other _ _ e]
   exact i.ne.2 p' hp'
theorem RmIn.went (i:RmIn w No h st) {k0:Nat} {v':BitVec 64} {c:Nat} {zs:List Value} (t:Tn (fun k=>k=h.sl∨k=h.p) w w') (hs:RSetC w' h.s h.sl st.pr c zs v')
  (hp:w'.heap[h.p]?=some (.cells ((prRow h st).set k0 (.pointer none)).toArray 72 (0,0)))
  (hv:∀ q,Mc.has { st with v:=v',rs:=upd st.rs k0 [],ms:=upd st.ms k0 [] } q=(st.has q && !decide (q=k0)))
  (ok:McOk { st with v:=v',rs:=upd st.rs k0 [],ms:=upd st.ms k0 [] }) :
  RmIn w' No h { st with v:=v',rs:=upd st.rs k0 [],ms:=upd st.ms k0 [] }:=by
 obtain ⟨c',zs',hs'⟩:=i.set
 have has:∀ q,Mc.has { st with v:=v',rs:=upd st.rs k0 [],ms:=upd st.ms k0 [] } q=true→st.has q=true∧q ≠ k0:=fun q e=>by rw [hv] at e;simpa using e
 have qm:¬ (h.m=h.sl∨h.m=h.p):=fun e=>by
  rcases e with e | e
  ·exact i.no.2.2.1 (by rw [e];exact i.no.1)
  ·exact i.no.2.2.1 (by rw [e];exact i.no.2.1)
 refine ⟨row_tn i.row t qm,⟨c,zs,hs⟩,?_,?_,ok,i.no,?_,⟨i.ne.1,?_⟩,fun k hk=>Nat.lt_of_lt_of_le (i.lt k hk) t.size⟩
 ·refine hp.trans (congrArg (fun l:List Value=>some (Obj.cells l.toArray 72 (0,0))) (prRow_set rfl ?_ ?_))
  ·unfold prV
   rw [if_neg (by rw [hv];simp)]
  ·intro k hk
   have e:(k:Int) ≠ k0:=by omega
   unfold prV
   rw [hv]
   simp [e]
 ·intro p' hp'
  obtain ⟨a,e⟩:=has p' hp'
  show PrIn w' No (h.pr p') (upd st.rs k0 [] p') (upd st.ms k0 [] p')
  rw [upd_other _ _ e,upd_other _ _ e]
  refine (i.pr p' a).tn t (fun k hk=>?_)
  rcases hk with rfl | rfl
  ·exact ⟨i.no.1,(i.ne.2 p' a).1⟩
  ·exact ⟨i.no.2.1,(i.ne.2 p' a).2⟩
 ·intro p1 p2 k e1 e2 o1 o2
  obtain ⟨a1,n1⟩:=has p1 e1
  obtain ⟨a2,n2⟩:=has p2 e2
  change (h.pr p1).own (upd st.ms k0 [] p1) k at o1
  change (h.pr p2).own (upd st.ms k0 [] p2) k at o2
  rw [upd_other _ _ n1] at o1;rw [upd_other _ _ n2] at o2
  exact i.ap _ _ k a1 a2 o1 o2
 ·intro p' hp'
  obtain ⟨a,e⟩:=has p' hp'
  show ¬ (h.pr p').own (upd st.ms k0 [] p') h.sl∧¬ (h.pr p').own (upd st.ms k0 [] p') h.p
  rw [upd_other _ _ e]
  exact i.ne.2 p' a
end
end Go.Proofs.YtoepnbfifjgpfaaGreat
