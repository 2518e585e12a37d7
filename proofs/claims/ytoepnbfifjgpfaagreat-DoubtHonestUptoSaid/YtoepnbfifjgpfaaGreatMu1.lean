/- Plain laws on numbers: what Zig, Zag, Log, Turn come to. No program in sight. Slices of numbers as the walk reads them: 'RdAt k w a n c l': the slice (a, n, c) reads in w as the numbers l. No program in sight. append on rows of numbers that the call owns, in the walk's form. No program in sight. Rows of structs: what is read, what the call owns, append. No program in sight. -/
import Derived.WalkKit
import Derived.Lib.Hide
import Derived.Maps.AppendAt
import Derived.Deep.RegionHeld3
namespace Go.Proofs.YtoepnbfifjgpfaaGreat
open Go.RowKit

def nth (l:List Int) (i:Nat):Int:=l.getD i 0

theorem nth_eq {l:List Int} {i:Nat} (h:i < l.length):nth l i=l[i]:=by simp [nth,List.getD,h]
theorem nth_out {l:List Int} {i:Nat} (h:l.length≤i):nth l i=0:=by simp [nth,List.getD,h]

structure RdAt (k:IntKind) (w:World) (a:Option Addr) (n c:Nat) (l:List Int):Prop where
 len:l.length=n
 cap:n≤c
 max:c≤maxLen
 cell:∀ i,i < n→∃ b o,a=some ⟨b,o,none⟩∧w.cell? ⟨b,o+i,none⟩=some (.int k (nth l i))
 wf:∀ x ∈ l,(Lit.int k x).wf=true
 void:a=none→c=0

theorem RdAt.wfAt {k:IntKind} {w:World} {a:Option Addr} {n c:Nat} {l:List Int} (h:RdAt k w a n c l) (i:Nat) (hi:i < n):(Lit.int k (nth l i)).wf=true:=by
 have hl:=h.len
 apply h.wf
 rw [nth_eq (by omega)]
 exact List.getElem_mem _

theorem wf_u8_bd {x:Int} (h:(Lit.int .u8 x).wf=true):0≤x∧x≤255:=by
 simp [Lit.wf,IntKind.min,IntKind.max,IntKind.signed,IntKind.bits] at h;omega
theorem wf_i64_bd {x:Int} (h:(Lit.int .i64 x).wf=true) : -9223372036854775808≤x∧x≤9223372036854775807:=by
 simp [Lit.wf,IntKind.min,IntKind.max,IntKind.signed,IntKind.bits] at h;omega
theorem RdAt.below {k:IntKind} {w w':World} {a:Option Addr} {n c:Nat} {l:List Int} (h:RdAt k w a n c l) (hb:Below w.heap.size w w'):RdAt k w' a n c l:=
 ⟨h.len,h.cap,h.max,fun i hi=>by
  obtain ⟨b,o,e,hc⟩:=h.cell i hi
  have hlt:b < w.heap.size:=block_lt_of_cell hc
  exact ⟨b,o,e,by rw [hb.cell hlt];exact hc⟩,h.wf,h.void⟩

theorem RdAt.nil (k:IntKind) (w:World):RdAt k w none 0 0 []:=⟨rfl,Nat.le_refl _,by unfold maxLen;omega,fun i hi=>by omega,by simp,fun _=>rfl⟩

/-- What the call owns reads so. -/
theorem RdAt.owned {k:IntKind} {w:World} {base:Nat} {e:TypeId} {a:Option Addr} {n c:Nat} {l:List Int} (h:w.ownsRow base e 1 (.slice a n c) n (l.map (Value.int k))) (hw:∀ x ∈ l,(Lit.int k x).wf=true):RdAt k w a n c l:=by
 have hl:l.length=n:=by have:=h.1;simpa using this
 rcases h.2 with ⟨hv,hn⟩ | ⟨g,cap,cur,hv,_,hh,hnc,hcm,hcs,htake⟩
 ·injection hv with h1 h2 h3
  subst h1 h2 h3
  exact ⟨hl,Nat.le_refl _,by unfold maxLen;omega,fun i hi=>by omega,hw,fun _=>rfl⟩
 ·injection hv with h1 h2 h3
  subst h1 h3
  refine ⟨hl,hnc,hcm,fun i hi=>⟨g,0,rfl,?_⟩,hw,fun e=>by cases e⟩
  have hc:=World.ownsRow.cellAt h i (by omega)
  rw [Nat.zero_add,hc];rw [List.getElem?_map,List.getElem?_eq_getElem (by omega),nth_eq (by omega)];rfl
/-- string(b): the bytes as a string. -/
theorem conv_rd {P:Program} {src dst e:TypeId} (hs:P.underlying src=some (.slice e)) (he:P.underlying e=some (.int .u8)) (hd:P.underlying dst=some .string)
  {w:World} {a:Option Addr} {n c:Nat} {l:List Int} (h:RdAt .u8 w a n c l):(convert src dst (.slice a n c)).run P w = .ok (.string (strOfNums l)) w:=by
 have hlen:=h.len
 cases a with
 | none=>
  have hn:n=0:=by
   cases n with
   | zero=>rfl
   | succ n=>obtain ⟨_,_,h',_⟩:=h.cell 0 (by omega);cases h'
  subst hn
  obtain rfl:l=[]:=List.eq_nil_of_length_eq_zero hlen
  exact run_convert_bytes_nil w src e hs he 0 c dst hd
 | some ad=>
  by_cases hn:n=0
  ·subst hn
   obtain rfl:l=[]:=List.eq_nil_of_length_eq_zero hlen
   rw [run_convert_bytes_string w src dst e _ 0 c hs he hd,run_bytesToString w _ 0 c [] (by simp [loadCells,loadCellsFrom])];rfl
  ·obtain ⟨b,o,e1,_⟩:=h.cell 0 (by omega)
   injection e1 with e1
   subst e1
   refine run_convert_bytes_arg w src e hs he b o n c l hlen (fun i hi=>?_) dst hd
   obtain ⟨b',o',e2,hc⟩:=h.cell i hi
   injection e2 with e2
   injection e2 with e2 e3
   subst e2 e3
   exact hc
/-- A slice of numbers as the row's reading gives it. -/
theorem RdAt.of_row {k:IntKind} {w:World} {x:Addr} {len cap:Nat} {zs:List Int} (hl:len≤cap) (hm:cap≤maxLen) (hz:zs.length=cap)
  (hcell:∀ i,i < zs.length→w.cell? (x.add i)=some (.int k (zs.getD i 0))) (hwz:∀ n ∈ zs,(Lit.int k n).wf=true):RdAt k w (some x) len cap (zs.take len):=by
 refine ⟨by simp;omega,hl,hm,fun i hi=>?_,fun n hn=>hwz n (List.mem_of_mem_take hn),fun h=>by cases h⟩
 obtain ⟨b,o,sp⟩:=x
 have h0:=hcell 0 (by omega)
 have hsp:sp=none:=by simpa [Addr.add] using World.cell?_spot h0
 subst hsp
 refine ⟨b,o,rfl,?_⟩
 have h1:=hcell i (by omega)
 rw [Addr.add_lit] at h1;rw [h1]
 unfold nth
 simp [List.getD,hi]
theorem RdAt.alloc {k:IntKind} {w:World} {a:Option Addr} {n c:Nat} {l:List Int} (h:RdAt k w a n c l) (o:Obj):RdAt k (w.alloc o) a n c l:=h.below ((Below.refl _ _).alloc (Nat.le_refl _) o)

/-- The block that an append to the slice may write to: none where it has no room at all. -/
def room:Value→Option Nat
 | .slice (some a) _ c=>if c=0 then none else some a.block
 | _=>none
theorem room_some {v:Value} {g:Nat} (h:room v=some g):v.ownBlock=some g:=by
 unfold room at h
 split at h
 ·split at h
  ·cases h
  ·exact h
 ·cases h
theorem room_empty (a:Option Addr) (n:Nat):room (.slice a n 0)=none:=by cases a <;> simp [room]

/-- The call owns (from block base on) the slice v, whose elements are the numbers l: it has no room and no elements, or lies at the head of a row of its own. -/
def Owns (k:IntKind) (e:TypeId) (w:World) (base:Nat) (v:Value) (l:List Int):Prop:=
 (∀ x ∈ l,(Lit.int k x).wf=true)∧((l=[]∧∃ a:Option Addr,v = .slice a 0 0∧(∀ x,a=some x→x.spot=none))∨w.ownsRow base e 1 v l.length (l.map (Value.int k)))

theorem Owns.shape {k:IntKind} {e:TypeId} {w:World} {base:Nat} {v:Value} {l:List Int} (h:Owns k e w base v l):∃ a c,v = .slice a l.length c:=by
 rcases h.2 with ⟨rfl,a,hv,_⟩ | h2
 ·exact ⟨a,0,hv⟩
 ·rcases h2.2 with ⟨hv,hn⟩ | ⟨g,cap,cur,hv,_⟩
  ·exact ⟨none,0,by rw [hv,hn]⟩
  ·exact ⟨_,_,hv⟩
theorem Owns.shapeN {k:IntKind} {e:TypeId} {w:World} {base:Nat} {v:Value} {l:List Int} (h:Owns k e w base v l) (n:Nat) (hn:l.length=n):∃ a c,v = .slice a n c:=by
 subst hn;exact h.shape
theorem Owns.rd {k:IntKind} {e:TypeId} {w:World} {base:Nat} {a:Option Addr} {n c:Nat} {l:List Int} (h:Owns k e w base (.slice a n c) l):RdAt k w a n c l:=by
 rcases h.2 with ⟨rfl,a',hv,_⟩ | h2
 ·injection hv with h1 h2 h3
  subst h1 h2 h3
  exact ⟨rfl,Nat.le_refl _,by unfold maxLen;omega,fun i hi=>by omega,by simp,fun _=>rfl⟩
 ·obtain ⟨a',c',hv⟩:=h.shape
  injection hv with h1 h3 h4
  subst h3
  exact RdAt.owned h2 h.1
theorem Owns.nil (k:IntKind) (e:TypeId) (w:World) (base:Nat):Owns k e w base (.slice none 0 0) []:=⟨by simp,.inl ⟨rfl,none,rfl,fun _ h=>by cases h⟩⟩
theorem Owns.empty (k:IntKind) (e:TypeId) (w:World) (base b o:Nat):Owns k e w base (.slice (some ⟨b,o,none⟩) 0 0) []:=⟨by simp,.inl ⟨rfl,_,rfl,fun x h=>by injection h with h;rw [← h]⟩⟩
theorem Owns.alloc {k:IntKind} {e:TypeId} {w:World} {base:Nat} {v:Value} {l:List Int} (h:Owns k e w base v l) (o:Obj):Owns k e (w.alloc o) base v l:=⟨h.1,h.2.imp id fun h2=>h2.alloc o⟩
theorem Owns.drew {k:IntKind} {e:TypeId} {w:World} {base:Nat} {v:Value} {l:List Int} (h:Owns k e w base v l):Owns k e w.drew base v l:=h
theorem Owns.mono {k:IntKind} {e:TypeId} {w:World} {base base':Nat} {v:Value} {l:List Int} (h:Owns k e w base v l) (hb:base'≤base):Owns k e w base' v l:=by
 refine ⟨h.1,h.2.imp id fun h2=>⟨h2.1,?_⟩⟩
 rcases h2.2 with h3 | ⟨g,cap,cur,hv,hg,r⟩
 ·exact .inl h3
 ·exact .inr ⟨g,cap,cur,hv,by omega,r⟩
/-- What is owned stays owned while nothing that was there is written. -/
theorem Owns.below {k:IntKind} {e:TypeId} {w w':World} {base:Nat} {v:Value} {l:List Int} (h:Owns k e w base v l) (hb:Below w.heap.size w w'):Owns k e w' base v l:=by
 refine ⟨h.1,h.2.imp id fun h2=>⟨h2.1,?_⟩⟩
 rcases h2.2 with h3 | ⟨g,cap,cur,hv,hg,hh,r⟩
 ·exact .inl h3
 ·refine .inr ⟨g,cap,cur,hv,hg,?_,r⟩
  rw [hb.block g (Array.getElem?_eq_some_iff.1 hh).1];exact hh
theorem Owns.at_base {k:IntKind} {e:TypeId} {w:World} {base:Nat} {v:Value} {l:List Int} (h:Owns k e w base v l):∀ g,room v=some g→base≤g∧g < w.heap.size:=by
 intro g hg
 rcases h.2 with ⟨_,a,hv,_⟩ | h2
 ·rw [hv,room_empty] at hg;cases hg
 ·exact h2.lt g (room_some hg)
/-- While an own row is written, another one stays. -/
theorem Owns.grown {k:IntKind} {e:TypeId} {w w':World} {row:Option Nat} {base:Nat} {v:Value} {l:List Int} (h:Owns k e w base v l) (hg:w.grownBy w' row) (hne:∀ g,room v=some g→some g ≠ row):Owns k e w' base v l:=by
 by_cases hr:room v=none
 ·refine ⟨h.1,?_⟩
  rcases h.2 with h2 | h2
  ·exact .inl h2
  ·rcases h2.2 with ⟨hv,hn⟩ | ⟨g,cap,cur,hv,hb,hh,hnc,hcm,hcs,ht⟩
   ·exact .inl ⟨List.eq_nil_of_length_eq_zero hn,none,hv,fun _ h=>by cases h⟩
   ·have hc:cap=0:=by
     subst hv
     unfold room at hr
     simp at hr
     exact hr
    subst hc
    have hl:l.length=0:=by omega
    exact .inl ⟨List.eq_nil_of_length_eq_zero hl,_,by rw [hv,hl],fun x h=>by injection h with h;rw [← h]⟩
 ·obtain ⟨g,hgr⟩:=Option.ne_none_iff_exists'.1 hr
  exact ⟨h.1,h.2.imp id fun h2=>h2.kept hg (.inr (by rw [room_some hgr];exact hne g hgr))⟩

/-- From w to w' the slice v has become v': nothing that was there has turned but the block that v had room in; v' has its room there or in a new block. -/
def Grows (w:World) (v:Value) (w':World) (v':Value):Prop:=w.grownBy w' (room v)∧(room v'=room v∨∀ g,room v'=some g→w.heap.size≤g)
theorem Grows.refl (w:World) (v:Value):Grows w v w v:=⟨⟨rfl,rfl,rfl,Nat.le_refl _,fun _ _ _=>rfl⟩,.inl rfl⟩
theorem Grows.below {w w':World} {v v':Value} {base:Nat} (h:Grows w v w' v') (hb:base≤w.heap.size) (hv:∀ g,room v=some g→base≤g):Below base w w':=
 (Below.refl base w).grown h.1 hb hv
theorem Grows.fromEmpty {w w1:World} {v1:Value} {o:Obj} {a:Option Addr} (h:Grows (w.alloc o) (.slice a 0 0) w1 v1):Below w.heap.size w w1:=
 ((Below.refl w.heap.size w).alloc (Nat.le_refl _) o).trans (h.below (by simp) (fun g hg=>by rw [room_empty] at hg;cases hg))
/-- Behind an append to a slice without room all that was there is as it was. -/
theorem Grows.fromNone {w w1:World} {a:Option Addr} {n:Nat} {v1:Value} (h:Grows w (.slice a n 0) w1 v1):Below w.heap.size w w1:=
 h.below (Nat.le_refl _) (fun g hg=>by rw [room_empty] at hg;cases hg)
/-- What holds below the heap's old size, handed on. -/
theorem Below.more {w W:World} (h:Below w.heap.size w W) (o:Obj):Below w.heap.size w (W.alloc o):=h.alloc h.size o
theorem Below.call {w W W':World} (h:Below w.heap.size w W) (k:Below W.heap.size W W'):Below w.heap.size w W':=h.trans (k.mono h.size)

def elemInfo (P:Program) (e:TypeId) (k:IntKind) (bytes:Nat):Prop:=(P.info? e).map (fun i=>(i.zero,i.size,i.bytes))=some (some (.int k 0),1,bytes)

section
variable {P:Program} {k:IntKind} {T e bytes:Nat} {ops:Array Oper} {rest:List Oper} {o:Oper} {a:Act} {Q:Exit→Act→World→Prop}

/-- Nothing is appended: all is as it was. -/
theorem run_app_zero (hT:P.underlying T=some (.slice e)) (hI:elemInfo P e k bytes) (ty:TypeId) (w:World) (a0:Option Addr) (m c0:Nat) (hm:m≤c0) (b:Option Addr) (c:Nat) :
  (Builtin.append_ #[T,T] ty #[.slice a0 m c0,.slice b 0 c]).run P w = .ok (.slice a0 m c0) w:=by
 obtain ⟨i,hi,hz0,hz1,hz2⟩:=info_parts hI
 cases a0 <;> cases b <;> simp [Builtin.append_,run_underlying hT,sizeOf,typeInfo,hi,Builtin.lenOf,Builtin.firstCells,loadCells,loadCellsFrom,storeCells,hm]

theorem cap_of_owns {w:World} {base:Nat} {a0:Option Addr} {m c0:Nat} {l:List Int} (h:Owns k e w base (.slice a0 m c0) l):m≤c0∧l.length=m:=
 ⟨h.rd.cap,h.rd.len⟩

/-- append of cells that lie at an address, to a slice that the call owns. -/
theorem run_app (hT:P.underlying T=some (.slice e)) (hI:elemInfo P e k bytes) (hby:bytes≤8) (ty:TypeId) (w:World) (base:Nat) (v:Value) (l:List Int) (hown:Owns k e w base v l)
  (ad:Addr) (n c:Nat) (lb:List Int) (hl:lb.length=n) (hw:∀ x ∈ lb,(Lit.int k x).wf=true) (hcell:∀ j u,(lb.map (Value.int k))[j]?=some u→w.cell? (ad.add j)=some u) (hlen:l.length+n≤1099511627776) (hbase:base≤w.heap.size) :
  ∃ v' w',(Builtin.append_ #[T,T] ty #[v,.slice (some ad) n c]).run P w = .ok v' w'∧Owns k e w' base v' (l ++ lb)∧Grows w v w' v':=by
 have hwf:∀ z ∈ l ++ lb,(Lit.int k z).wf=true:=by
  intro z hz
  rcases List.mem_append.1 hz with hz | hz
  ·exact hown.1 z hz
  ·exact hw z hz
 obtain ⟨a0,c0,rfl⟩:=hown.shape
 have hcap:=(cap_of_owns hown).1
 by_cases hn:n=0
 ·subst hn
  obtain rfl:lb=[]:=List.eq_nil_of_length_eq_zero hl
  exact ⟨_,_,run_app_zero hT hI ty w a0 _ c0 hcap (some ad) c,by simpa using hown,Grows.refl _ _⟩
 obtain ⟨i,hi,hz0,hz1,hz2⟩:=info_parts hI
 have hbb:(l.length+n) * bytes≤(l.length+n) * 8:=Nat.mul_le_mul_left _ hby
 by_cases hc:c0=0
 ·subst hc
  obtain rfl:l=[]:=List.eq_nil_of_length_eq_zero (by omega)
  have hgc:=grownCap_ge w n 0 e
  have hown0:∀ (g:Nat) (hg:(w.drew.alloc (.cells (#[] ++ (lb.map (Value.int k)).toArray ++ Builtin.zeroCells (Value.int k 0).cells (grownCap w n 0 e - n)) e)).heap[g]?=some (.cells (#[] ++ (lb.map (Value.int k)).toArray ++ Builtin.zeroCells (Value.int k 0).cells (grownCap w n 0 e - n)) e)) (hgb:base≤g),
    (w.drew.alloc (.cells (#[] ++ (lb.map (Value.int k)).toArray ++ Builtin.zeroCells (Value.int k 0).cells (grownCap w n 0 e - n)) e)).ownsRow base e 1 (.slice (some ⟨g,0,none⟩) n (grownCap w n 0 e)) lb.length (lb.map (Value.int k)):=by
   intro g hg hgb
   refine ⟨by simp,.inr ⟨g,_,_,by rw [hl],hgb,hg,by omega,grownCap_le_maxLen w n 0 e (by unfold maxLen;simp at hlen;omega),?_,?_⟩⟩
   ·simp only [Array.size_append,List.size_toArray,size_zeroCells,List.length_map,hl]
    simp [Value.cells];omega
   ·simp [hl]
  cases a0 with
  | none=>
   have hrun:=run_append_nil (P:=P) w T ty e i (.int k 0) hT hi hz0 ad n c (lb.map (Value.int k)) (by simp [hl,hz1]) hcell (by omega) (by simp at hlen;omega) (by rw [hz2];simp at hbb hlen;omega)
   refine ⟨_,_,hrun,⟨by simpa using hw,.inr ?_⟩,⟨⟨rfl,rfl,rfl,by simp,fun j hj _=>Below.heap_alloc w.drew _ j hj⟩,.inr fun g hg=>?_⟩⟩
   ·simpa using hown0 w.heap.size (heap_alloc_new w.drew _) hbase
   ·have:=room_some hg
    simp [Value.ownBlock] at this
    omega
  | some g0=>
   have hrun:=run_append_grow (P:=P) w T ty e i (.int k 0) hT hi hz0 g0 0 0 [] (by simp) (by simp) ad n c (lb.map (Value.int k)) (by simp [hl,hz1]) hcell (by omega) (by simp at hlen;omega) (growslice_fits (by omega) (by rw [hz2];simp at hlen hbb ⊢;omega))
   rw [Nat.zero_add] at hrun
   refine ⟨_,_,hrun,⟨by simpa using hw,.inr ?_⟩,⟨⟨rfl,rfl,rfl,by simp,fun j hj _=>Below.heap_alloc w.drew _ j hj⟩,.inr fun g hg=>?_⟩⟩
   ·simpa using hown0 w.heap.size (heap_alloc_new w.drew _) hbase
   ·have:=room_some hg
    simp [Value.ownBlock] at this
    omega
 ·have hrow:w.ownsRow base e 1 (.slice a0 l.length c0) l.length (l.map (Value.int k)):=by
   rcases hown.2 with ⟨_,a1,hv,_⟩ | h2
   ·injection hv with _ _ h3;exact absurd h3 hc
   ·exact h2
  have hroom:room (.slice a0 l.length c0)=Value.ownBlock (.slice a0 l.length c0):=by
   cases a0 <;> simp [room,Value.ownBlock,hc]
  obtain ⟨v',w',hr',h1,h2,_,h4⟩:=run_append_own_at (P:=P) w base T ty e i (.int k 0) 1 bytes hT hi hz0 hz1 hz2 rfl (by decide) _ l.length _ hrow ad n c (lb.map (Value.int k)) (by simp [hl]) hcell (ints_oneCell k lb) (by unfold maxLen;omega) (by omega) hbase
  refine ⟨v',w',hr',⟨hwf,.inr (by simpa [hl] using h1)⟩,⟨by rw [hroom];exact h2,?_⟩⟩
  by_cases hv':room v'=none
  ·exact .inr fun g hg=>by rw [hv'] at hg;cases hg
  ·obtain ⟨g,hgr⟩:=Option.ne_none_iff_exists'.1 hv'
   have hgo:=room_some hgr
   rcases h4 with h4 | h4
   ·exact .inl (by rw [hgr,hroom,← h4,hgo])
   ·exact .inr fun g' hg'=>by rw [hgr] at hg';injection hg' with hg';rw [hgo] at h4;injection h4 with h4;omega

/-- append(s, x): one number; the walk has laid x into a new block of one cell. -/
theorem run_app_one (hT:P.underlying T=some (.slice e)) (hI:elemInfo P e k bytes) (hby:bytes≤8) (ty:TypeId) (w:World) (base:Nat) (v:Value) (l:List Int) (hown:Owns k e w base v l)
  (q:Int) (hq:(Lit.int k q).wf=true) (hlen:l.length≤1099511627775) (hbase:base≤w.heap.size) :
  ∃ v' w',(Builtin.append_ #[T,T] ty #[v,.slice (some ⟨w.heap.size,0,none⟩) 1 1]).run P (w.alloc (.cells #[.int k q] e)) = .ok v' w'∧Owns k e w' base v' (l ++ [q])∧Grows w v w' v':=by
 obtain ⟨v',w',hr,h1,h2,h4⟩:=run_app (P:=P) hT hI hby ty (w.alloc (.cells #[.int k q] e)) base v l (hown.alloc _) ⟨w.heap.size,0,none⟩ 1 1 [q] rfl (by simpa using hq) (by
   intro j u hu
   cases j with
   | zero=>simp at hu;subst hu;rw [Addr.add_lit];simp
   | succ j=>simp at hu) (by omega) (by simp;omega)
 refine ⟨v',w',hr,h1,⟨?_,?_⟩⟩
 ·have hs:=h2.size
  rw [World.size_alloc] at hs
  exact ⟨h2.os,h2.tape,h2.output,by omega,fun j hj hne=>by rw [h2.block j (by rw [World.size_alloc];omega) hne];exact Below.heap_alloc w _ j hj⟩
 ·rcases h4 with h4 | h4
  ·exact .inl h4
  ·exact .inr fun g hg=>by have:=h4 g hg;rw [World.size_alloc] at this;omega

/-- append(s, b...): all numbers of a slice. -/
theorem run_app_all (hT:P.underlying T=some (.slice e)) (hI:elemInfo P e k bytes) (hby:bytes≤8) (ty:TypeId) (w:World) (base:Nat) (v:Value) (l:List Int) (hown:Owns k e w base v l)
  (b:Option Addr) (n c:Nat) (lb:List Int) (hrd:RdAt k w b n c lb) (hlen:l.length+n≤1099511627776) (hbase:base≤w.heap.size) :
  ∃ v' w',(Builtin.append_ #[T,T] ty #[v,.slice b n c]).run P w = .ok v' w'∧Owns k e w' base v' (l ++ lb)∧Grows w v w' v':=by
 have hl:=hrd.len
 cases b with
 | none=>
  have hn:n=0:=by
   cases n with
   | zero=>rfl
   | succ n=>obtain ⟨_,_,h',_⟩:=hrd.cell 0 (by omega);cases h'
  subst hn
  obtain rfl:lb=[]:=List.eq_nil_of_length_eq_zero hl
  obtain ⟨a0,c0,rfl⟩:=hown.shape
  exact ⟨_,_,run_app_zero hT hI ty w a0 _ c0 (cap_of_owns hown).1 none c,by simpa using hown,Grows.refl _ _⟩
 | some ad=>
  exact run_app hT hI hby ty w base v l hown ad n c lb hl hrd.wf (by
    intro j u hu
    have hj:j < n:=by have:=(List.getElem?_eq_some_iff.1 hu).1;simpa [hl] using this
    obtain ⟨b,o',e',hc⟩:=hrd.cell j hj
    injection e' with e'
    subst e';rw [Addr.add_lit,hc];rw [List.getElem?_map,List.getElem?_eq_getElem (by omega)] at hu
    rw [nth_eq (by omega)];exact hu) hlen hbase

theorem app_one (hT:P.underlying T=some (.slice e)) (hI:elemInfo P e k bytes) (hby:bytes≤8) (hg:o.guard=none) (s x:Operand)
  (ho:o.op = .call { callee:=.builtin .append,args:=#[s,x],argTypes:=#[T,T] }) (w:World) (base:Nat) (v:Value) (l:List Int) (hs:a.eval s=v) (hown:Owns k e w base v l)
  (q:Int) (hx:a.eval x = .slice (some ⟨w.heap.size,0,none⟩) 1 1) (hq:(Lit.int k q).wf=true) (hlen:l.length≤1099511627775) (hbase:base≤w.heap.size)
  (h:∀ v' w',Owns k e w' base v' (l ++ [q])→Grows w v w' v'→wpList P ops Q rest (a.put o.dst v') w') :
  wpList P ops Q (o :: rest) a (w.alloc (.cells #[.int k q] e)):=by
 refine wpList_plain hg fun K hK=>?_
 obtain ⟨v',w',hr,h1,h2⟩:=run_app_one (P:=P) hT hI hby o.type w base v l hown q hq hlen hbase
 unfold Oper.wp execOp
 simp only [ho,resolve,invoke,builtin,Sem.run_bind,Sem.run_pure,Result.andThen_ok,List.map_toArray,List.map_cons,List.map_nil,hs,hx,hr]
 exact hK _ _ (h v' w' h1 h2)

theorem app_all (hT:P.underlying T=some (.slice e)) (hI:elemInfo P e k bytes) (hby:bytes≤8) (hg:o.guard=none) (s x:Operand)
  (ho:o.op = .call { callee:=.builtin .append,args:=#[s,x],argTypes:=#[T,T] }) (w:World) (base:Nat) (v:Value) (l:List Int) (hs:a.eval s=v) (hown:Owns k e w base v l)
  (b:Option Addr) (n c:Nat) (lb:List Int) (hx:a.eval x = .slice b n c) (hrd:RdAt k w b n c lb) (hlen:l.length+n≤1099511627776) (hbase:base≤w.heap.size)
  (h:∀ v' w',Owns k e w' base v' (l ++ lb)→Grows w v w' v'→wpList P ops Q rest (a.put o.dst v') w') :
  wpList P ops Q (o :: rest) a w:=by
 refine wpList_plain hg fun K hK=>?_
 obtain ⟨v',w',hr,h1,h2⟩:=run_app_all (P:=P) hT hI hby o.type w base v l hown b n c lb hrd hlen hbase
 unfold Oper.wp execOp
 simp only [ho,resolve,invoke,builtin,Sem.run_bind,Sem.run_pure,Result.andThen_ok,List.map_toArray,List.map_cons,List.map_nil,hs,hx,hr]
 exact hK _ _ (h v' w' h1 h2)

end
/-- An element lies in k cells. -/
structure Cellular {α:Type} (m:α→List Value) (k:Nat):Prop where
 len:∀ x,(m x).length=k
 one:∀ x,∀ u ∈ m x,u.oneCell'=true
 pos:0 < k
/-- A slice of structs that can be read: each element's cells. -/
structure RdS {α:Type} (m:α→List Value) (k:Nat) (w:World) (a:Option Addr) (n c:Nat) (L:List α):Prop where
 len:L.length=n
 cap:n≤c
 max:c≤maxLen
 cell:∀ i x,L[i]?=some x→∃ b o,a=some ⟨b,o,none⟩∧∀ j u,(m x)[j]?=some u→w.cell? ⟨b,o+i * k+j,none⟩=some u
 void:a=none→c=0
/-- The call owns (from block base on) the slice v of structs L: it has no room and no elements, or lies at the head of a row of its own. -/
def OwnsS {α:Type} (m:α→List Value) (k:Nat) (e:TypeId) (w:World) (base:Nat) (v:Value) (L:List α):Prop:=
 (L=[]∧∃ a:Option Addr,v = .slice a 0 0∧(∀ x,a=some x→x.spot=none))∨w.ownsRow base e k v L.length (L.flatMap m)
section
variable {α:Type} {m:α→List Value} {k:Nat} {e:TypeId} {w w':World} {base:Nat} {v:Value} {L:List α}
theorem flat_len (C:Cellular m k):∀ L:List α,(L.flatMap m).length=L.length * k
 | []=>by simp
 | x :: L=>by rw [List.flatMap_cons,List.length_append,flat_len C L,C.len x,List.length_cons,Nat.add_mul];omega
theorem flat_at (C:Cellular m k):∀ (L:List α) (i:Nat) (x:α),L[i]?=some x→∀ j u,(m x)[j]?=some u→(L.flatMap m)[i * k+j]?=some u
 | [],i,x,h,_,_,_=>by cases h
 | y :: L,0,x,h,j,u,hu=>by
  injection h with h
  subst h
  have hj:=(List.getElem?_eq_some_iff.1 hu).1
  rw [List.flatMap_cons,Nat.zero_mul,Nat.zero_add,List.getElem?_append_left hj]
  exact hu
 | y :: L,i+1,x,h,j,u,hu=>by
  rw [List.getElem?_cons_succ] at h
  rw [List.flatMap_cons,List.getElem?_append_right (by rw [C.len,Nat.add_mul];omega),C.len]
  rw [show (i+1) * k+j - k=i * k+j by rw [Nat.add_mul];omega]
  exact flat_at C L i x h j u hu
theorem OwnsS.shape (h:OwnsS m k e w base v L):∃ a c,v = .slice a L.length c:=by
 rcases h with ⟨rfl,a,hv,_⟩ | h2
 ·exact ⟨a,0,hv⟩
 ·rcases h2.2 with ⟨hv,hn⟩ | ⟨g,cap,cur,hv,_⟩
  ·exact ⟨none,0,by rw [hv,hn]⟩
  ·exact ⟨_,_,hv⟩
theorem OwnsS.shapeN (h:OwnsS m k e w base v L) (n:Nat) (hn:L.length=n):∃ a c,v = .slice a n c:=by
 subst hn;exact h.shape
theorem RdS.nil (m:α→List Value) (k:Nat) (w:World):RdS m k w none 0 0 []:=⟨rfl,Nat.le_refl _,by unfold maxLen;omega,fun i x h=>(by cases h),fun _=>rfl⟩
theorem OwnsS.rd (C:Cellular m k) {a:Option Addr} {n c:Nat} (h:OwnsS m k e w base (.slice a n c) L):RdS m k w a n c L:=by
 rcases h with ⟨rfl,a',hv,_⟩ | h2
 ·injection hv with h1 h2 h3
  subst h1 h2 h3
  exact ⟨rfl,Nat.le_refl _,by unfold maxLen;omega,fun i x h=>(by cases h),fun _=>rfl⟩
 ·rcases h2.2 with ⟨hv,hn⟩ | ⟨g,cap,cur,hv,hg,hh,hnc,hcm,hcs,ht⟩
  ·injection hv with h1 h3 h4
   subst h1 h3 h4
   exact ⟨hn,Nat.le_refl _,by unfold maxLen;omega,fun i x h=>(by rw [List.eq_nil_of_length_eq_zero hn] at h;cases h),fun _=>rfl⟩
  ·injection hv with h1 h3 h4
   subst h1 h3 h4
   refine ⟨rfl,hnc,hcm,fun i x hx=>⟨g,0,rfl,fun j u hu=>?_⟩,fun h=>by cases h⟩
   have h1:=flat_at C L i x hx j u hu
   rw [← ht,List.getElem?_take] at h1
   split at h1
   ·rw [cell_of_row w g _ cur e (0,0) hh,Nat.zero_add]
    simpa using h1
   ·cases h1
theorem OwnsS.nil (m:α→List Value) (k:Nat) (e:TypeId) (w:World) (base:Nat):OwnsS m k e w base (.slice none 0 0) []:=.inl ⟨rfl,none,rfl,fun _ h=>by cases h⟩
theorem OwnsS.empty (m:α→List Value) (k:Nat) (e:TypeId) (w:World) (base b o:Nat):OwnsS m k e w base (.slice (some ⟨b,o,none⟩) 0 0) []:=.inl ⟨rfl,_,rfl,fun x h=>by injection h with h;rw [← h]⟩
theorem OwnsS.alloc (h:OwnsS m k e w base v L) (o:Obj):OwnsS m k e (w.alloc o) base v L:=h.imp id fun h2=>h2.alloc o
theorem OwnsS.mono {base':Nat} (h:OwnsS m k e w base v L) (hb:base'≤base):OwnsS m k e w base' v L:=by
 refine h.imp id fun h2=>⟨h2.1,?_⟩
 rcases h2.2 with h3 | ⟨g,cap,cur,hv,hg,r⟩
 ·exact .inl h3
 ·exact .inr ⟨g,cap,cur,hv,by omega,r⟩
theorem OwnsS.below (h:OwnsS m k e w base v L) (hb:Below w.heap.size w w'):OwnsS m k e w' base v L:=by
 refine h.imp id fun h2=>⟨h2.1,?_⟩
 rcases h2.2 with h3 | ⟨g,cap,cur,hv,hg,hh,r⟩
 ·exact .inl h3
 ·refine .inr ⟨g,cap,cur,hv,hg,?_,r⟩
  rw [hb.block g (Array.getElem?_eq_some_iff.1 hh).1];exact hh
theorem OwnsS.at_base (h:OwnsS m k e w base v L):∀ g,room v=some g→base≤g∧g < w.heap.size:=by
 intro g hg
 rcases h with ⟨_,a,hv,_⟩ | h2
 ·rw [hv,room_empty] at hg;cases hg
 ·exact h2.lt g (room_some hg)
theorem OwnsS.grown {row:Option Nat} (h:OwnsS m k e w base v L) (hg:w.grownBy w' row) (hne:∀ g,room v=some g→some g ≠ row):OwnsS m k e w' base v L:=by
 by_cases hr:room v=none
 ·rcases h with h2 | h2
  ·exact .inl h2
  ·rcases h2.2 with ⟨hv,hn⟩ | ⟨g,cap,cur,hv,hb,hh,hnc,hcm,hcs,ht⟩
   ·exact .inl ⟨List.eq_nil_of_length_eq_zero hn,none,hv,fun _ h=>by cases h⟩
   ·have hc:cap=0:=by
     subst hv
     unfold room at hr
     simp at hr
     exact hr
    subst hc
    have hl:L.length=0:=by omega
    exact .inl ⟨List.eq_nil_of_length_eq_zero hl,_,by rw [hv,hl],fun x h=>by injection h with h;rw [← h]⟩
 ·obtain ⟨g,hgr⟩:=Option.ne_none_iff_exists'.1 hr
  exact h.imp id fun h2=>h2.kept hg (.inr (by rw [room_some hgr];exact hne g hgr))
theorem RdS.below {a:Option Addr} {n c:Nat} (h:RdS m k w a n c L) (hb:Below w.heap.size w w'):RdS m k w' a n c L:=
 ⟨h.len,h.cap,h.max,fun i x hx=>by
  obtain ⟨b,o,e,hc⟩:=h.cell i x hx
  exact ⟨b,o,e,fun j u hu=>by rw [← hc j u hu];exact hb.cell (p:=⟨b,o+i * k+j,none⟩) (block_lt_of_cell (hc j u hu))⟩,h.void⟩
theorem RdS.alloc {a:Option Addr} {n c:Nat} (h:RdS m k w a n c L) (o:Obj):RdS m k (w.alloc o) a n c L:=h.below ((Below.refl _ _).alloc (Nat.le_refl _) o)
theorem RdS.lt {a:Option Addr} {n c:Nat} (C:Cellular m k) (h:RdS m k w a n c L):∀ x,a=some x→0 < n→x.block < w.heap.size:=fun x hx hn=>by
 have hl:=h.len
 obtain ⟨b,o,e,hc⟩:=h.cell 0 L[0] (List.getElem?_eq_getElem (by omega))
 rw [hx] at e
 injection e with e
 subst e
 exact block_lt_of_cell (a:=⟨b,o+0 * k+0,none⟩) (hc 0 _ (List.getElem?_eq_getElem (by rw [C.len];exact C.pos)))
variable {P:Program} {T bytes:Nat} {z:Value}
/-- Nothing is appended: all is as it was. -/
theorem run_appS_zero (hT:P.underlying T=some (.slice e)) (hI:(P.info? e).map (fun i=>(i.zero,i.size,i.bytes))=some (some z,k,bytes)) (ty:TypeId) (w:World) (a0:Option Addr) (q c0:Nat) (hm:q≤c0) (b:Option Addr) (c:Nat) :
  (Builtin.append_ #[T,T] ty #[.slice a0 q c0,.slice b 0 c]).run P w = .ok (.slice a0 q c0) w:=by
 obtain ⟨i,hi,hz0,hz1,hz2⟩:=info_parts hI
 cases a0 <;> cases b <;> simp [Builtin.append_,run_underlying hT,sizeOf,typeInfo,hi,Builtin.lenOf,Builtin.firstCells,loadCells,loadCellsFrom,storeCells,hm]
/-- append of elements whose cells lie at an address, to a slice that the call owns. -/
theorem run_appS (C:Cellular m k) (hT:P.underlying T=some (.slice e)) (hI:(P.info? e).map (fun i=>(i.zero,i.size,i.bytes))=some (some z,k,bytes)) (hzc:z.cells.size=k) (hby:bytes≤128) (ty:TypeId) (w:World) (base:Nat) (v:Value) (L:List α) (hown:OwnsS m k e w base v L)
  (ad:Addr) (n c:Nat) (M:List α) (hl:M.length=n) (hcell:∀ j u,(M.flatMap m)[j]?=some u→w.cell? (ad.add j)=some u) (hlen:L.length+n≤1000000000000) (hbase:base≤w.heap.size) :
  ∃ v' w',(Builtin.append_ #[T,T] ty #[v,.slice (some ad) n c]).run P w = .ok v' w'∧OwnsS m k e w' base v' (L ++ M)∧Grows w v w' v':=by
 obtain ⟨a0,c0,rfl⟩:=hown.shape
 have hcap:=(hown.rd C).cap
 by_cases hn:n=0
 ·subst hn
  obtain rfl:M=[]:=List.eq_nil_of_length_eq_zero hl
  exact ⟨_,_,run_appS_zero hT hI ty w a0 _ c0 hcap (some ad) c,by simpa using hown,Grows.refl _ _⟩
 obtain ⟨i,hi,hz0,hz1,hz2⟩:=info_parts hI
 have hbb:(L.length+n) * bytes≤(L.length+n) * 128:=Nat.mul_le_mul_left _ hby
 have hfl:=flat_len C M
 have hone:∀ u ∈ M.flatMap m,u.oneCell'=true:=fun u hu=>by
  obtain ⟨x,_,hx⟩:=List.mem_flatMap.1 hu
  exact C.one x u hx
 by_cases hc:c0=0
 ·subst hc
  obtain rfl:L=[]:=List.eq_nil_of_length_eq_zero (by omega)
  have hgc:=grownCap_ge w n 0 e
  have hown0:∀ (g:Nat) (hg:(w.drew.alloc (.cells (#[] ++ (M.flatMap m).toArray ++ Builtin.zeroCells z.cells (grownCap w n 0 e - n)) e)).heap[g]?=some (.cells (#[] ++ (M.flatMap m).toArray ++ Builtin.zeroCells z.cells (grownCap w n 0 e - n)) e)) (hgb:base≤g),
    (w.drew.alloc (.cells (#[] ++ (M.flatMap m).toArray ++ Builtin.zeroCells z.cells (grownCap w n 0 e - n)) e)).ownsRow base e k (.slice (some ⟨g,0,none⟩) n (grownCap w n 0 e)) M.length (M.flatMap m):=by
   intro g hg hgb
   refine ⟨by rw [hfl],.inr ⟨g,_,_,by rw [hl],hgb,hg,by omega,grownCap_le_maxLen w n 0 e (by unfold maxLen;simp at hlen;omega),?_,?_⟩⟩
   ·simp only [Array.size_append,List.size_toArray,size_zeroCells,hfl,hzc,hl]
    rw [show ([]:List Value).length=0 from rfl,Nat.zero_add,← Nat.add_mul]
    congr 1
    omega
   ·rw [← hfl]
    simp
  cases a0 with
  | none=>
   have hrun:=run_append_nil (P:=P) w T ty e i z hT hi hz0 ad n c (M.flatMap m) (by rw [hfl,hl,hz1]) hcell (by omega) (by simp at hlen;omega) (by rw [hz2];simp at hbb hlen;omega)
   refine ⟨_,_,hrun,.inr ?_,⟨⟨rfl,rfl,rfl,by simp,fun j hj _=>Below.heap_alloc w.drew _ j hj⟩,.inr fun g hg=>?_⟩⟩
   ·simpa using hown0 w.heap.size (heap_alloc_new w.drew _) hbase
   ·have:=room_some hg
    simp [Value.ownBlock] at this
    omega
  | some g0=>
   have hrun:=run_append_grow (P:=P) w T ty e i z hT hi hz0 g0 0 0 [] (by simp) (by simp) ad n c (M.flatMap m) (by rw [hfl,hl,hz1]) hcell (by omega) (by simp at hlen;omega) (growslice_fits (by omega) (by rw [hz2];simp at hlen hbb ⊢;omega))
   rw [Nat.zero_add] at hrun
   refine ⟨_,_,hrun,.inr ?_,⟨⟨rfl,rfl,rfl,by simp,fun j hj _=>Below.heap_alloc w.drew _ j hj⟩,.inr fun g hg=>?_⟩⟩
   ·simpa using hown0 w.heap.size (heap_alloc_new w.drew _) hbase
   ·have:=room_some hg
    simp [Value.ownBlock] at this
    omega
 ·have hrow:w.ownsRow base e k (.slice a0 L.length c0) L.length (L.flatMap m):=by
   rcases hown with ⟨_,a1,hv,_⟩ | h2
   ·injection hv with _ _ h3;exact absurd h3 hc
   ·exact h2
  have hroom:room (.slice a0 L.length c0)=Value.ownBlock (.slice a0 L.length c0):=by
   cases a0 <;> simp [room,Value.ownBlock,hc]
  obtain ⟨v',w',hr',h1,h2,_,h4⟩:=run_append_own_at (P:=P) w base T ty e i z k bytes hT hi hz0 hz1 hz2 hzc C.pos _ L.length _ hrow ad n c (M.flatMap m) (by rw [hfl,hl]) hcell hone (by unfold maxLen;omega) (by omega) hbase
  refine ⟨v',w',hr',.inr (by simpa [hl] using h1),⟨by rw [hroom];exact h2,?_⟩⟩
  by_cases hv':room v'=none
  ·exact .inr fun g hg=>by rw [hv'] at hg;cases hg
  ·obtain ⟨g,hgr⟩:=Option.ne_none_iff_exists'.1 hv'
   have hgo:=room_some hgr
   rcases h4 with h4 | h4
   ·exact .inl (by rw [hgr,hroom,← h4,hgo])
   ·exact .inr fun g' hg'=>by rw [hgr] at hg';injection hg' with hg';rw [hgo] at h4;injection h4 with h4;omega
theorem Grows.back {o:Obj} {v':Value} {w':World} (h:Grows (w.alloc o) v w' v'):Grows w v w' v':=by
 obtain ⟨h2,h4⟩:=h
 refine ⟨?_,?_⟩
 ·have hs:=h2.size
  rw [World.size_alloc] at hs
  exact ⟨h2.os,h2.tape,h2.output,by omega,fun j hj hne=>by rw [h2.block j (by rw [World.size_alloc];omega) hne];exact Below.heap_alloc w _ j hj⟩
 ·rcases h4 with h4 | h4
  ·exact .inl h4
  ·exact .inr fun g hg=>by have:=h4 g hg;rw [World.size_alloc] at this;omega
/-- append(s, x): one struct, which lies in a block. -/
theorem run_appS_one (C:Cellular m k) (hT:P.underlying T=some (.slice e)) (hI:(P.info? e).map (fun i=>(i.zero,i.size,i.bytes))=some (some z,k,bytes)) (hzc:z.cells.size=k) (hby:bytes≤128) (ty:TypeId) (w:World) (base:Nat) (v:Value) (L:List α) (hown:OwnsS m k e w base v L)
  (g c:Nat) (x:α) (hrow:w.heap[g]?=some (.cells (m x).toArray e (0,0))) (hlen:L.length < 1000000000000) (hbase:base≤w.heap.size) :
  ∃ v' w',(Builtin.append_ #[T,T] ty #[v,.slice (some ⟨g,0,none⟩) 1 c]).run P w = .ok v' w'∧OwnsS m k e w' base v' (L ++ [x])∧Grows w v w' v':=
 run_appS (P:=P) C hT hI hzc hby ty w base v L hown ⟨g,0,none⟩ 1 c [x] rfl (by
   intro j u hu;rw [Addr.add_lit,Nat.zero_add,cell_of_row w g j _ e (0,0) hrow]
   simpa using hu) (by omega) hbase
/-- append(s, b...): all structs of a slice. -/
theorem run_appS_all (C:Cellular m k) (hT:P.underlying T=some (.slice e)) (hI:(P.info? e).map (fun i=>(i.zero,i.size,i.bytes))=some (some z,k,bytes)) (hzc:z.cells.size=k) (hby:bytes≤128) (ty:TypeId) (w:World) (base:Nat) (v:Value) (L:List α) (hown:OwnsS m k e w base v L)
  (b:Option Addr) (n c:Nat) (M:List α) (hrd:RdS m k w b n c M) (hlen:L.length+n≤1000000000000) (hbase:base≤w.heap.size) :
  ∃ v' w',(Builtin.append_ #[T,T] ty #[v,.slice b n c]).run P w = .ok v' w'∧OwnsS m k e w' base v' (L ++ M)∧Grows w v w' v':=by
 have hl:=hrd.len
 cases b with
 | none=>
  have hn:n=0:=by have:=hrd.void rfl;have:=hrd.cap;omega
  subst hn
  obtain rfl:M=[]:=List.eq_nil_of_length_eq_zero hl
  obtain ⟨a0,c0,rfl⟩:=hown.shape
  exact ⟨_,_,run_appS_zero hT hI ty w a0 _ c0 (hown.rd C).cap none c,by simpa using hown,Grows.refl _ _⟩
 | some ad=>
  refine run_appS (P:=P) C hT hI hzc hby ty w base v L hown ad n c M hl (fun j u hu=>?_) hlen hbase
  have hj:=(List.getElem?_eq_some_iff.1 hu).1
  rw [flat_len C] at hj
  have hi:j / k < M.length:=Nat.div_lt_of_lt_mul (by rw [Nat.mul_comm];exact hj)
  obtain ⟨b,o',e',hc⟩:=hrd.cell (j / k) M[j / k] (List.getElem?_eq_getElem hi)
  injection e' with e'
  subst e'
  have hmod:j % k < k:=Nat.mod_lt _ C.pos
  have hsum:j / k * k+j % k=j:=by rw [Nat.mul_comm];exact Nat.div_add_mod j k
  have h1:=flat_at C M (j / k) M[j / k] (List.getElem?_eq_getElem hi) (j % k) ((m M[j / k])[j % k]'(by rw [C.len];exact hmod)) (List.getElem?_eq_getElem _)
  rw [hsum,hu] at h1;rw [Addr.add_lit]
  have h2:=hc (j % k) _ (List.getElem?_eq_getElem (by rw [C.len];exact hmod))
  rw [Nat.add_assoc,hsum] at h2;rw [h2]
  exact h1.symm
variable {ops:Array Oper} {rest:List Oper} {o:Oper} {a:Act} {Q:Exit→Act→World→Prop}
theorem appS_one (C:Cellular m k) (hT:P.underlying T=some (.slice e)) (hI:(P.info? e).map (fun i=>(i.zero,i.size,i.bytes))=some (some z,k,bytes)) (hzc:z.cells.size=k) (hby:bytes≤128) (hg:o.guard=none) (s x:Operand)
  (ho:o.op = .call { callee:=.builtin .append,args:=#[s,x],argTypes:=#[T,T] }) (w:World) (base:Nat) (v:Value) (L:List α) (hs:a.eval s=v) (hown:OwnsS m k e w base v L)
  (g c:Nat) (q:α) (hx:a.eval x = .slice (some ⟨g,0,none⟩) 1 c) (hrow:w.heap[g]?=some (.cells (m q).toArray e (0,0))) (hlen:L.length < 1000000000000) (hbase:base≤w.heap.size)
  (h:∀ v' w',OwnsS m k e w' base v' (L ++ [q])→Grows w v w' v'→wpList P ops Q rest (a.put o.dst v') w') :
  wpList P ops Q (o :: rest) a w:=by
 refine wpList_plain hg fun K hK=>?_
 obtain ⟨v',w',hr,h1,h2⟩:=run_appS_one (P:=P) C hT hI hzc hby o.type w base v L hown g c q hrow hlen hbase
 unfold Oper.wp execOp
 simp only [ho,resolve,invoke,builtin,Sem.run_bind,Sem.run_pure,Result.andThen_ok,List.map_toArray,List.map_cons,List.map_nil,hs,hx,hr]
 exact hK _ _ (h v' w' h1 h2)
theorem appS_all (C:Cellular m k) (hT:P.underlying T=some (.slice e)) (hI:(P.info? e).map (fun i=>(i.zero,i.size,i.bytes))=some (some z,k,bytes)) (hzc:z.cells.size=k) (hby:bytes≤128) (hg:o.guard=none) (s x:Operand)
  (ho:o.op = .call { callee:=.builtin .append,args:=#[s,x],argTypes:=#[T,T] }) (w:World) (base:Nat) (v:Value) (L:List α) (hs:a.eval s=v) (hown:OwnsS m k e w base v L)
  (b:Option Addr) (n c:Nat) (M:List α) (hx:a.eval x = .slice b n c) (hrd:RdS m k w b n c M) (hlen:L.length+n≤1000000000000) (hbase:base≤w.heap.size)
  (h:∀ v' w',OwnsS m k e w' base v' (L ++ M)→Grows w v w' v'→wpList P ops Q rest (a.put o.dst v') w') :
  wpList P ops Q (o :: rest) a w:=by
 refine wpList_plain hg fun K hK=>?_
 obtain ⟨v',w',hr,h1,h2⟩:=run_appS_all (P:=P) C hT hI hzc hby o.type w base v L hown b n c M hrd hlen hbase
 unfold Oper.wp execOp
 simp only [ho,resolve,invoke,builtin,Sem.run_bind,Sem.run_pure,Result.andThen_ok,List.map_toArray,List.map_cons,List.map_nil,hs,hx,hr]
 exact hK _ _ (h v' w' h1 h2)
end
end Go.Proofs.YtoepnbfifjgpfaaGreat
