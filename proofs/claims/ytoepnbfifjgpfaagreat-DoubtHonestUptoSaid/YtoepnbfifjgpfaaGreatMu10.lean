/- region: cut, Unmap, joined at every row, Map, Protect, Clean. region: Map. Regions that draw their order: an operation's value may be used up by another one (the variable that a chain of calls hands on). No program in sight. Regions that draw their order: small steps for a walk that is written out, order by order. No program in sight. region: Clean. -/
import Derived.Test.YtoepnbfifjgpfaaGreatMu6
import Derived.Test.YtoepnbfifjgpfaaGreatMu9
import Derived.Test.YtoepnbfifjgpfaaGreatMu3
import Derived.Test.YtoepnbfifjgpfaaGreatMu1
import Derived.Deep.DrawnRows
namespace Go.Proofs.YtoepnbfifjgpfaaGreat
set_option maxRecDepth 100000
open Go.RowKit Go.Shelf Go.Proofs
theorem cut_any (a:Option Addr) (n c:Nat) (L:List Rg) (lo hi:Int) (w:World) (h:RdS Rg.cells 3 w a n c L) (hn:n≤1000) (hnice:NiceL L) :
  Calls Tryz.prog 103 #[.slice a n c,.int .i64 lo,.int .i64 hi] w (GivesRgs (cutL L lo hi) w):=by
 by_cases h0:lo < hi
 ·exact cutR_loop a n c L lo hi w h hn h0 (fun r hr=>(hnice r hr).1)
 ·have e:cutL L lo hi=L:=by unfold cutL;rw [if_pos (by omega)]
  rw [e]
  have h1:hi≤lo:=by omega
  go_enter Tryz.func103,Tryz.ntmps103
  go_wp2_with (go_at_call 51;refine (cloneR_any a n c L w h (by omega)).mono ?_;rintro e w' ⟨v,rfl,ho,hb⟩)
  go_ret
  exact ⟨_,rfl,ho,hb⟩
theorem unmap_any (a:Option Addr) (n c:Nat) (L:List Rg) (lo hi:Int) (w:World) (h:RdS Rg.cells 3 w a n c L) (hn:n≤1000) (hnice:NiceL L) :
  Calls Tryz.prog 91 #[.slice a n c,.int .i64 lo,.int .i64 hi] w (GivesRgs (cutL L lo hi) w):=by
 go_enter Tryz.func91,Tryz.ntmps91
 go_wp2_with (go_at_call 103;refine (cut_any a n c L lo hi w h hn hnice).mono ?_;rintro e w' ⟨v,rfl,ho,hb⟩)
 go_ret
 exact ⟨_,rfl,ho,hb⟩
theorem joinedL_nil:joinedL []=[]:=by unfold joinedL sortLo;simp [joinedS]
/-- joined, of regions that the call owns. -/
def GivesJoined (L:List Rg) (v:Value) (w:World) (e:Ending) (w':World):Prop:=∃ v',e = .returned v'∧OwnsS Rg.cells 3 110 w' w.heap.size v' (joinedL L)∧w.grownBy w' (room v)
set_option linter.unusedSimpArgs false in
set_option linter.unusedVariables false in
theorem joined_none (base:Nat) (v:Value) (w:World) (h:OwnsS Rg.cells 3 110 w base v []):Calls Tryz.prog 102 #[v] w (GivesJoined [] v w):=by
 obtain ⟨a,c,rfl⟩:=h.shapeN 0 rfl
 have hcon:=fun w=>AnyF.slices_SortFunc_none sortR a c (.func (.func 118) #[] #[]) w
 change ∀ w,Calls Tryz.prog 117 _ _ _ at hcon
 have HC:=Lib.hid hcon;clear hcon h
 go_enter Tryz.func102,Tryz.ntmps102
 go_wp2_with fail
 refine (HC.out w).mono ?_
 rintro e w' ⟨rfl,rfl⟩
 go_wp2
 go_loop [3,11] (fun x i=>x = .slice none 0 0∧i = .int .i64 0) (fun _ _=>0)
 case atStart=>exact ⟨rfl,rfl⟩
 case round=>
  obtain ⟨rfl,rfl⟩:=hrel
  go_wp2
  go_ret
  exact ⟨_,rfl,by rw [joinedL_nil];exact OwnsS.nil _ _ _ _ _,World.grownBy.refl _ _⟩
theorem joined_all (base:Nat) (v:Value) (L:List Rg) (w:World) (h:OwnsS Rg.cells 3 110 w base v L) (hl:∀ r ∈ L,0≤r.lo∧r.lo≤1099511627776) (hn2:L.length≤5000)
  (hp:Parted L) (hnice:NiceL L):Calls Tryz.prog 102 #[v] w (GivesJoined L v w):=by
 by_cases h0:0 < L.length
 ·exact joined_loop base v L w h hl h0 hn2 hp hnice
 ·obtain rfl:L=[]:=List.eq_nil_of_length_eq_zero (by omega)
  exact joined_none base v w h
/-- Ends with regions of its own and an error. -/
def GivesRE (L:List Rg) (err:Int) (w:World) (e:Ending) (w':World):Prop:=∃ v,e = .returned (.tuple #[v,.int .i64 err])∧OwnsS Rg.cells 3 110 w' w.heap.size v L∧Below w.heap.size w w'
theorem gives_re {L M N:List Rg} {err:Int} {w w1 w2 w3 w4:World} {v2 v3 v4:Value} {o:Obj} (hb1:Below w.heap.size w w1) (hb2:Below w1.heap.size w1 w2) (ho2:OwnsS Rg.cells 3 110 w2 w1.heap.size v2 M) (hg3:Grows (w2.alloc o) v2 w3 v3) (ho3:OwnsS Rg.cells 3 110 w3 w1.heap.size v3 N)
  (ho4:OwnsS Rg.cells 3 110 w4 w3.heap.size v4 L) (hg4:w3.grownBy w4 (room v3)):GivesRE L err w (.returned (.tuple #[v4,.int .i64 err])) w4:=by
 have h3:Below w1.heap.size w1 w3:=own_step hb2 ho2 (below_a _ _) hg3
 have h4:Below w.heap.size w w3:=Below.call hb1 h3
 exact ⟨v4,rfl,ho4.mono h4.size,Below.grown h4 hg4 h4.size (fun k e=>Nat.le_trans hb1.size (ho3.at_base k e).1)⟩
set_option linter.unusedSimpArgs false in
set_option linter.unusedVariables false in
set_option maxHeartbeats 1000000 in
theorem protect_any (a:Option Addr) (n c:Nat) (L:List Rg) (lo hi p:Int) (w:World) (h:RdS Rg.cells 3 w a n c L) (hn:n≤1000) (hnice:NiceL L) (hp:Parted L) (hlo:∀ r ∈ L,0≤r.lo∧r.hi≤1099511627776) (hhi:hi≤1099511627776) :
  Calls Tryz.prog 92 #[.slice a n c,.int .i64 lo,.int .i64 hi,.int .i64 p] w (if rightB lo hi p=false then GivesRE [] 1 w else if allL L lo hi (okW 0)=false then GivesRE [] 2 w else GivesRE (joinedL (cutL L lo hi ++ [⟨lo,hi,p⟩])) 0 w):=by
 have HR:=Lib.hid (right_any lo hi p)
 have HA:Hid (∀ w1,Below w.heap.size w w1→Calls Tryz.prog 89 #[.slice a n c,.int .i64 lo,.int .i64 hi,.int .i64 0] w1 fun e w'=>e = .returned (.bool (allL L lo hi (okW 0)))∧Below w1.heap.size w1 w'):=fun w1 hb=>all_any a n c L lo hi 0 w1 (RdS.below h hb) hn
 have HC:Hid (∀ w1,Below w.heap.size w w1→Calls Tryz.prog 103 #[.slice a n c,.int .i64 lo,.int .i64 hi] w1 (GivesRgs (cutL L lo hi) w1)):=fun w1 hb=>cut_any a n c L lo hi w1 (RdS.below h hb) hn hnice
 obtain ⟨RB,hRB⟩:∃ x,rightB lo hi p=x:=⟨_,rfl⟩
 rw [hRB] at HR ⊢
 cases RB with
 | false=>
  clear h HA HC
  go_enter Tryz.func92,Tryz.ntmps92
  go_wp2_with (go_at_call 101;refine (HR.out _).mono ?_;rintro e w' ⟨rfl,rfl⟩)
  go_ret2
  exact ⟨_,rfl,OwnsS.nil _ _ _ _ _,Below.refl _ _⟩
 | true=>
  rw [if_neg (by decide)]
  obtain ⟨AB,hAB⟩:∃ x,allL L lo hi (okW 0)=x:=⟨_,rfl⟩
  rw [hAB] at HA ⊢
  cases AB with
  | false=>
   clear h HC
   go_enter Tryz.func92,Tryz.ntmps92
   go_wp2_with (first | (go_at_call 101;refine (HR.out _).mono ?_;rintro e w' ⟨rfl,rfl⟩) | (go_at_call 89;refine (HA.out w (Below.refl _ _)).mono ?_;rintro e w1 ⟨rfl,hb1⟩))
   go_ret2
   exact ⟨_,rfl,OwnsS.nil _ _ _ _ _,hb1⟩
  | true=>
   rw [if_neg (by decide)]
   unfold rightB protB at hRB
   simp only [Bool.and_eq_true,decide_eq_true_eq] at hRB
   obtain ⟨r1,r2,r3,r4⟩:=hRB
   have HJ:Hid (∀ base v w1,OwnsS Rg.cells 3 110 w1 base v (cutL L lo hi ++ [⟨lo,hi,p⟩])→Calls Tryz.prog 102 #[v] w1 (GivesJoined (cutL L lo hi ++ [⟨lo,hi,p⟩]) v w1)):=fun base v w1 ho=>by
    refine joined_all base v _ w1 ho (fun r hr=>?_) ?_ ((cutL_parted hp r2).snoc (r:=⟨lo,hi,p⟩) (cutL_apart (r:=⟨lo,hi,p⟩) r2)) ((cutL_nice hnice r2).snoc ⟨r2,r3⟩)
    ·rcases List.mem_append.1 hr with hr | hr
     ·obtain ⟨q,hq,q1,q2,q3,_⟩:=cutL_mem r2 hr
      have:=hlo q hq
      omega
     ·obtain rfl:=List.mem_singleton.1 hr
      exact ⟨r1,by show lo≤_;omega⟩
    ·have:=cutL_len L lo hi
     have:=h.len
     simp
     omega
   have HL:Hid ((cutL L lo hi).length≤2000):=by
    show _≤_
    have:=cutL_len L lo hi
    have:=h.len
    omega
   clear h r1 r2 r3 r4 hAB hp hnice hlo hhi
   go_enter Tryz.func92,Tryz.ntmps92
   go_wp2_with (first | (go_at_call 101;refine (HR.out _).mono ?_;rintro e w' ⟨rfl,rfl⟩) | (go_at_call 89;refine (HA.out w (Below.refl _ _)).mono ?_;rintro e w1 ⟨rfl,hb1⟩) | (go_at_call 103;refine (HC.out w1 hb1).mono ?_;rintro e w2 ⟨v2,rfl,ho2,hb2⟩) | (at_builtin;refine appS_one rgC Tryz.underlying77 rgI rfl (by decide) rfl (.tmp 25) (.tmp 30) rfl _ w1.heap.size _ _ rfl (ho2.alloc _) _ 1 ⟨lo,hi,p⟩ rfl (heap_alloc_new _ _) (by have:=HL.out;omega) (by have:=hb2.size;simp;omega) ?_;intro v3 w3 ho3 hg3) | (go_at_call 102;refine (HJ.out w1.heap.size v3 w3 ho3).mono ?_;rintro e w4 ⟨v4,rfl,ho4,hg4⟩))
   go_ret2
   exact gives_re hb1 hb2 ho2 hg3 ho3 ho4 hg4
attribute [local go_sem] Oper.semAt_some
theorem appS_oneIn {α:Type} {m:α→List Value} {k:Nat} {e:TypeId} {F:Fence} {nn:Nat} {P:Program} {T bytes:Nat} {z:Value} {ops:Array Oper} {rest:List Oper} {o:Oper} {a:Act} {Q:Exit→Act→World→Prop} (C:Cellular m k) (hT:P.underlying T=some (.slice e)) (hI:(P.info? e).map (fun i=>(i.zero,i.size,i.bytes))=some (some z,k,bytes)) (hzc:z.cells.size=k) (hby:bytes≤128) (hg:o.guard=none) (s x:Operand)
  (ho:o.op = .call { callee:=.builtin .append,args:=#[s,x],argTypes:=#[T,T] }) (w:World) (base:Nat) (v:Value) (L:List α) (hs:a.eval s=v) (hown:OwnsS m k e w base v L)
  (g c:Nat) (q:α) (hx:a.eval x = .slice (some ⟨g,0,none⟩) 1 c) (hrow:w.heap[g]?=some (.cells (m q).toArray e (0,0))) (hlen:L.length < 1000000000000) (hbase:base≤w.heap.size)
  (h:∀ v' w',OwnsS m k e w' base v' (L ++ [q])→Grows w v w' v'→wpListIn F nn P ops Q rest (a.put o.dst v') w') :
  wpListIn F nn P ops Q (o :: rest) a w:=by
 refine wpListIn_plain hg fun K hK=>?_
 obtain ⟨v',w',hr,h1,h2⟩:=run_appS_one (P:=P) C hT hI hzc hby o.type w base v L hown g c q hrow hlen hbase
 unfold Oper.wpIn
 refine ⟨?_,?_⟩
 ·simp [Oper.about,ho,resolve,Target.leads,Sem.run_pure]
 ·rw [Oper.semAt_plain F _ _ (by rw [ho];intro c hc';cases hc')]
  simp [execOp,ho,resolve,invoke,builtin,hs,hx,hr,Result.andThen]
  exact hK _ _ (h v' w' h1 h2)
theorem map_size {w w2 w3:World} {v2 v3:Value} {o:Obj} (hb2:Below w.heap.size w w2) (hg3:Grows (w2.alloc o) v2 w3 v3):w.heap.size≤w3.heap.size:=by
 have:=hb2.size
 have:=hg3.1.size
 simp at this
 omega
theorem map_below {w w2 w3 w4:World} {L M:List Rg} {v2 v3:Value} {o:Obj} (hb2:Below w.heap.size w w2) (ho2:OwnsS Rg.cells 3 110 w2 w.heap.size v2 L) (hg3:Grows (w2.alloc o) v2 w3 v3) (ho3:OwnsS Rg.cells 3 110 w3 w.heap.size v3 M) (hg4:w3.grownBy w4 (room v3)):Below w.heap.size w w4:=by
 have h3:Below w.heap.size w w3:=own_step hb2 ho2 (below_a _ _) hg3
 exact Below.grown h3 hg4 h3.size (fun k e=>(ho3.at_base k e).1)
theorem map_arg (a:Option Addr) (n c:Nat) (lo hi p:Int) (w:World) (h:rightB lo hi p=false) :
  Calls Tryz.prog 90 #[.slice a n c,.int .i64 lo,.int .i64 hi,.int .i64 p] w (GivesRE [] 1 w):=by
 have HR:=Lib.hid (right_any lo hi p)
 rw [h] at HR;clear h
 go_enter Tryz.func90,Tryz.ntmps90
 go_wp2_with (go_at_call 101;refine (HR.out _).mono ?_;rintro e w' ⟨rfl,rfl⟩)
 have hw:=(Boxed.new w 77 (.slice none 0 0)).alloc (.cells #[.int .i64 1] 29)
 have hv:=Boxed.new (w.alloc (.cells #[.slice none 0 0] 77)) 29 (.int .i64 1)
 rw [World.size_alloc] at hv
 refine bodyPost_ret (v:=.tuple #[.slice none 0 0,.int .i64 1]) (by simp [results,Tryz.results90,go_sem,hw.cell,hv.cell]) rfl ?_
 exact ⟨_,rfl,OwnsS.nil _ _ _ _ _,below_a2 w _ _⟩
/-- How Map ends, of a stretch that may be. -/
def GivesMap (L:List Rg) (lo hi p:Int) (w:World):Ending→World→Prop:=if piecesL L lo hi=[] then GivesRE (joinedL (L ++ [⟨lo,hi,p⟩])) 0 w else GivesRE [] 3 w
theorem gives_used {L:List Rg} {lo hi p:Int} {w:World} {e:Ending} {w':World} (h:piecesL L lo hi ≠ []) (k:GivesRE [] 3 w e w'):GivesMap L lo hi p w e w':=by
 unfold GivesMap;rw [if_neg h];exact k
theorem gives_mapped {L:List Rg} {lo hi p:Int} {w:World} {e:Ending} {w':World} (h:piecesL L lo hi=[]) (k:GivesRE (joinedL (L ++ [⟨lo,hi,p⟩])) 0 w e w'):GivesMap L lo hi p w e w':=by
 unfold GivesMap;rw [if_pos h];exact k
/-- What Map's own cells hold between two rounds: there is none. -/
structure MapI (w W0:World) (pre:List Rg) (W:World):Prop where
 nil:pre=[]
 res:Boxed W w.heap.size 77 (.slice none 0 0)
 err:Boxed W (w.heap.size+1) 29 (.int .i64 0)
 size:W0.heap.size≤W.heap.size
structure MapX (w:World) (c:Code) (pre:List Rg) (W:World):Prop where
 ret:c = .ret
 some:pre ≠ []
 res:Boxed W w.heap.size 77 (.slice none 0 0)
 err:Boxed W (w.heap.size+1) 29 (.int .i64 3)
theorem mapI_own (w W0:World):Own (fun pre W=>MapI w W0 pre W):=fun _ _ _ _ hs hg hr=>⟨hs.nil,row_own hs.res hg hr,row_own hs.err hg hr,Nat.le_trans hs.size hg.size⟩
theorem mapX_own (w:World) (c:Code):Own (fun pre W=>MapX w c pre W):=fun _ _ _ _ hs hg hr=>⟨hs.ret,hs.some,row_own hs.res hg hr,row_own hs.err hg hr⟩
set_option linter.unusedSimpArgs false in
set_option linter.unusedVariables false in
set_option maxHeartbeats 2000000 in
theorem map_in (a:Option Addr) (n c:Nat) (L:List Rg) (lo hi p:Int) (w:World) (h:RdS Rg.cells 3 w a n c L) (hn:n≤1000) (hnice:NiceL L) (hp:Parted L) (hlo:∀ r ∈ L,0≤r.lo∧r.hi≤1099511627776) (hhi:hi≤1099511627776) (hr:rightB lo hi p=true) :
  Calls Tryz.prog 90 #[.slice a n c,.int .i64 lo,.int .i64 hi,.int .i64 p] w (GivesMap L lo hi p w):=by
 have H:=Lib.hid h
 have hl:=h.len
 have HR:=Lib.hid (right_any lo hi p)
 rw [hr] at HR;clear h
 refine (callsIn_wide (n:=6)).1 ?_
 refine callsIn_of_wp_marks Tryz.func90 rfl trivial ?_ rfl
 simp only [Tryz.ntmps90,List.size_toArray,List.length_cons,List.length_nil,Nat.reduceAdd,Nat.reduceSub,Array.replicate_succ,Array.replicate_zero,List.push_toArray,List.append_toArray,List.nil_append,List.cons_append]
 have hba:=below_a2 w (.cells #[.slice none 0 0] 77) (.cells #[.int .i64 0] 29)
 have b0:=(Boxed.new w 77 (.slice none 0 0)).alloc (.cells #[.int .i64 0] 29)
 have b1:=Boxed.new (w.alloc (.cells #[.slice none 0 0] 77)) 29 (.int .i64 0)
 simp only [World.size_alloc] at b1
 have hfn:Fence.wide.fn 100:=trivial
 have hfn2:Fence.wide.fn 101:=trivial
 gi_wp2_with (first | (gi_at_call 101;refine (callsIn_wide.2 (HR.out _)).mono ?_;rintro e w' ⟨rfl,rfl⟩) | (gi_at_call 100;refine (callsIn_wide.2 (pieces_any a n c L lo hi _ (H.out.below hba) (by omega))).mono ?_;rintro e W0 ⟨v,rfl,hP,hO,hb0⟩))
 have hbW:=Below.call hba hb0
 have hsz0:w.heap.size+1+1≤W0.heap.size:=by have:=hb0.size;simp at this;omega
 have p0:=boxed_below b0 hb0 (by simp;omega)
 have p1:=boxed_below b1 hb0 (by simp)
 have hlt:=hP.hi.lt
 simp only [World.size_alloc] at hP hO hlt ⊢
 clear b0 b1 hb0 hba
 refine wpIn_rangeFunc_ownG rfl (by decide) (gf:=115) (lb:=#[.pointer (some ⟨w.heap.size+1+1,0,none⟩),.pointer (some ⟨w.heap.size+1+1+1,0,none⟩),.pointer (some ⟨w.heap.size+1+1+2,0,none⟩)]) rfl trivial (enters_of Tryz.func115 (by kernel_rfl) rfl)
  (pieces_stops Fence.wide (6 - 1) trivial rfl (by decide) (w.heap.size+1+1) W0.heap.size v L lo hi W0 (by omega) hP hO hlt (Nat.le_refl _) (fun g hg=>(hO.at_base g hg).2)) Amid.trans (amid_b (Nat.le_refl _)) (Below.refl _ _) (fun _=>rfl)
  (fun pre W=>MapI w W0 pre W∧Below w.heap.size w W)
  (fun c pre W=>MapX w c pre W∧Below w.heap.size w W)
  (OwnFrom.and (Own.from (mapI_own w W0) _) (ownFrom_below (Nat.le_refl _) (by omega)))
  (fun c=>OwnFrom.and (Own.from (mapX_own w c) _) (ownFrom_below (Nat.le_refl _) (by omega)))
  ⟨⟨rfl,p0,p1,Nat.le_refl _⟩,hbW⟩
  (fun x=>{ tmps:=#[.slice a n c,.int .i64 lo,.int .i64 hi,.int .i64 p,undef,undef,undef,undef,.pointer (some ⟨w.heap.size,0,none⟩),.pointer (some ⟨w.heap.size+1,0,none⟩),.int .i64 lo,.int .i64 hi,.int .i64 p,.bool true,.bool false,.slice a n c,.int .i64 lo,.int .i64 hi,.func (.func 115) #[] #[.pointer (some ⟨w.heap.size+1+1,0,none⟩),.pointer (some ⟨w.heap.size+1+1+1,0,none⟩),.pointer (some ⟨w.heap.size+1+1+2,0,none⟩)],x.val,undef,undef,undef,undef,undef,undef,undef,undef,undef],defers:=[] })
  ?assign ?body ?done ?stop
 case assign=>
  intro l x W K hK
  gi_wp2
  simpa using hK
 case body=>
  rintro l pre x W ⟨⟨rfl,q0,q1,hsz⟩,hB⟩ hlt2
  have c0:=q0.cell
  have c1:=q1.cell
  have f0:=q0.frozen
  have f1:=q1.frozen
  gi_wp2
  exact ⟨((KeepsOthers.setCell _ _ _).trans (KeepsOthers.setCell _ _ _)).from _,⟨rfl,by simp,(q0.set _).other (by omega) _,(q1.other (by omega) _).set _⟩,(hB.setCell (p:=⟨w.heap.size,0,none⟩) (by simp) _).setCell (p:=⟨w.heap.size+1,0,none⟩) (by simp) _⟩
 case stop=>
  rintro D cc pre W hD ⟨rest,hrest⟩ ⟨⟨rfl,hno,q0,q1⟩,hB⟩ hK
  have hne:piecesL L lo hi ≠ []:=fun e=>hno (by rw [e] at hrest;simp at hrest;exact hrest.1)
  clear hno hrest
  gi_wp2
  refine ⟨by simp,.inl ⟨_,_,rfl,run_takeDeferred hK,?_⟩⟩
  have hc0:=cell_kept q0.cell (grownBy_putObj' _ D (.deferred none)) (fun r e=>by cases e;exact ⟨_,hK,rfl⟩)
  have hc1:=cell_kept q1.cell (grownBy_putObj' _ D (.deferred none)) (fun r e=>by cases e;exact ⟨_,hK,rfl⟩)
  refine ⟨.tuple #[.slice none 0 0,.int .i64 3],?_,gives_used hne ⟨_,rfl,OwnsS.nil _ _ _ _ _,hB.trans (belowK_b (w:=w) (Nat.le_refl _) W D _ _ (by omega) hK rfl rfl)⟩⟩
  simp [results,Tryz.f90,go_sem,hc0,hc1]
 case done=>
  rintro D ys W hD rfl ⟨⟨hnil,q0,q1,hsz⟩,hB⟩ hK
  unfold rightB protB at hr
  simp only [Bool.and_eq_true,decide_eq_true_eq] at hr
  obtain ⟨r1,r2,r3,r4⟩:=hr
  have hno:=(pieces_none hnice r2).1 hnil
  have HJ:Hid (∀ base v w1,OwnsS Rg.cells 3 110 w1 base v (L ++ [⟨lo,hi,p⟩])→Calls Tryz.prog 102 #[v] w1 (GivesJoined (L ++ [⟨lo,hi,p⟩]) v w1)):=fun base v w1 ho=>by
   refine joined_all base v _ w1 ho (fun r hr=>?_) (by simp;omega) (hp.snoc (r:=⟨lo,hi,p⟩) (fun s hs=>?_)) (hnice.snoc ⟨r2,r3⟩)
   ·rcases List.mem_append.1 hr with hr | hr
    ·have:=hlo r hr
     have:=hnice r hr
     omega
    ·obtain rfl:=List.mem_singleton.1 hr
     exact ⟨r1,by show lo≤_;omega⟩
   ·have:=hno s hs
    unfold Apart
    show s.hi≤lo∨hi≤s.lo
    omega
  have HNIL:=Lib.hid hnil;have BD:=Lib.hid hB;have Q0:=Lib.hid q0;have Q1:=Lib.hid q1;have HKD:=Lib.hid hK;have HD:=Lib.hid hD
  have HC:=Lib.hid (cloneR_any a n c L W (RdS.below H.out hB) (by omega))
  have HL:=Lib.hid hl;clear hnil hB q0 q1 hK hno hp hnice hlo r1 r2 r3 r4 hl hD hP hO hbW hsz0
  have hf1:Fence.wide.fn 51:=trivial
  have hf2:Fence.wide.fn 102:=trivial
  gi_wp2_with (first | (gi_at_call 51;refine (callsIn_wide.2 HC.out).mono ?_;rintro e w2 ⟨v2,rfl,ho2,hb2⟩) | (gi_at_builtin;refine appS_oneIn rgC Tryz.underlying77 rgI rfl (by decide) rfl (.tmp 21) (.tmp 26) rfl _ W.heap.size _ _ rfl (ho2.alloc _) _ 1 ⟨lo,hi,p⟩ rfl (heap_alloc_new _ _) (by have:=HL.out;omega) (by have:=hb2.size;simp;omega) ?_;intro v3 w3 ho3 hg3) | (gi_at_call 102;refine (callsIn_wide.2 (HJ.out W.heap.size v3 w3 ho3)).mono ?_;rintro e w4 ⟨v4,rfl,ho4,hg4⟩;obtain ⟨m4,hm4⟩:∃ m4,(joinedL (L ++ [⟨lo,hi,p⟩])).length=m4:=⟨_,rfl⟩;obtain ⟨a4,c4,rfl⟩:=ho4.shapeN m4 hm4;have hB4:=map_below hb2 ho2 hg3 ho3 hg4;have c0:=(boxed_below Q0.out hB4 (by omega)).cell;have f0:=(boxed_below Q0.out hB4 (by omega)).frozen;have c1:=(boxed_below Q1.out hB4 (by omega)).cell;have f1:=(boxed_below Q1.out hB4 (by omega)).frozen;clear hm4))
  have z0:=boxed_below Q0.out hB4 (by omega)
  have z1:=boxed_below Q1.out hB4 (by omega)
  have hK4:w4.heap[D]?=some (.deferred (some [])):=(hB4.block D (Array.getElem?_eq_some_iff.1 HKD.out).1).trans HKD.out
  have hD:=HD.out
  have hK5:=(KeepsOthers.setCell w4 ⟨w.heap.size,0,none⟩ (.slice a4 m4 c4)).same D _ hK4 rfl
  have hK6:=(KeepsOthers.setCell (w4.setCell ⟨w.heap.size,0,none⟩ (.slice a4 m4 c4)) ⟨w.heap.size+1,0,none⟩ (.int .i64 0)).same D _ hK5 rfl
  have y0:=(z0.set (.slice a4 m4 c4)).other (B':=w.heap.size+1) (by omega) (.int .i64 0)
  have y1:=(z1.other (B':=w.heap.size) (by omega) (.slice a4 m4 c4)).set (.int .i64 0)
  refine ⟨by simp,.inl ⟨_,_,rfl,run_takeDeferred hK6,?_⟩⟩
  have hc0:=cell_kept y0.cell (grownBy_putObj' _ D (.deferred none)) (fun r e=>by cases e;exact ⟨_,hK6,rfl⟩)
  have hc1:=cell_kept y1.cell (grownBy_putObj' _ D (.deferred none)) (fun r e=>by cases e;exact ⟨_,hK6,rfl⟩)
  have hfin:Below w.heap.size w ((w4.setCell ⟨w.heap.size,0,none⟩ (.slice a4 m4 c4)).setCell ⟨w.heap.size+1,0,none⟩ (.int .i64 0)):=((Below.call BD.out hB4).setCell (p:=⟨w.heap.size,0,none⟩) (by simp) _).setCell (p:=⟨w.heap.size+1,0,none⟩) (by simp) _
  refine ⟨.tuple #[.slice a4 m4 c4,.int .i64 0],?_,gives_mapped HNIL.out ⟨_,rfl,?_,hfin.trans (belowK_b (w:=w) (Nat.le_refl _) _ D _ _ (by omega) hK6 rfl rfl)⟩⟩
  ·simp [results,Tryz.f90,go_sem,hc0,hc1]
  ·refine OwnsS.grown (row:=some D) ?_ (grownBy_putObj' _ D (.deferred none)) (fun g hg e=>?_)
   ·refine OwnsS.grown (OwnsS.grown (ho4.mono ?_) (cell_grown1 _ _ _ _) (fun g hg e=>?_)) (cell_grown1 _ _ _ _) (fun g hg e=>?_)
    ·exact Nat.le_trans BD.out.size (map_size hb2 hg3)
    ·injection e with e
     have:=(ho4.at_base g hg).1
     have:=map_size hb2 hg3
     omega
    ·injection e with e
     have:=(ho4.at_base g hg).1
     have:=map_size hb2 hg3
     omega
   ·injection e with e
    have:=(ho4.at_base g hg).1
    have h3:=map_size hb2 hg3
    have h4:=(Array.getElem?_eq_some_iff.1 HKD.out).1
    omega
/-- Map, of a stretch that may be. -/
theorem map_yes (a:Option Addr) (n c:Nat) (L:List Rg) (lo hi p:Int) (w:World) (h:RdS Rg.cells 3 w a n c L) (hn:n≤1000) (hnice:NiceL L) (hp:Parted L) (hlo:∀ r ∈ L,0≤r.lo∧r.hi≤1099511627776) (hhi:hi≤1099511627776) (hr:rightB lo hi p=true) :
  Calls Tryz.prog 90 #[.slice a n c,.int .i64 lo,.int .i64 hi,.int .i64 p] w (GivesMap L lo hi p w):=map_in a n c L lo hi p w h hn hnice hp hlo hhi hr
open Go.RowKit
/-- Behind operation j nothing is asked any more of what operation i left. -/
def kills (KL:List (Nat × Nat)) (j i:Nat):Bool:=KL.any fun p=>p.1 == j && p.2 == i
def killed (KL:List (Nat × Nat)) (i:Nat):Bool:=KL.any fun p=>p.2 == i
theorem not_killed {KL:List (Nat × Nat)} {i k:Nat} (h:killed KL i=false):kills KL k i=false:=by
 unfold killed at h
 unfold kills
 rw [List.any_eq_false] at h ⊢;intro p hp
 have:=h p hp
 simp only [Bool.and_eq_true,not_and]
 exact fun _=>this
def killOk (l:List Oper) (f:Nat) (KL:List (Nat × Nat)) (Bs:List (List Nat)):Bool:=
 (List.range l.length).all fun i=>(Bs.getD i []).all fun j=>KL.all fun p=>p.2 != j || (p.1 == i || waits l f p.1 i)
theorem killOk_get {l:List Oper} {f:Nat} {KL:List (Nat × Nat)} {Bs:List (List Nat)} (h:killOk l f KL Bs=true):∀ i,i < l.length→∀ j ∈ Bs.getD i [],∀ k,k < l.length→kills KL k j=true→k=i∨waits l f k i=true:=by
 intro i hi j hj k _ hk
 have h1:=List.all_eq_true.1 (List.all_eq_true.1 (List.all_eq_true.1 h i (by simpa using hi)) j hj)
 obtain ⟨p,hp,he⟩:=List.any_eq_true.1 hk
 simp only [Bool.and_eq_true,beq_iff_eq] at he
 have h2:=h1 p hp
 rw [Bool.or_eq_true,Bool.or_eq_true] at h2
 rcases h2 with e | e | e
 ·rw [bne_iff_ne] at e;exact absurd he.2 e
 ·rw [beq_iff_eq] at e;exact .inl (he.1.symm.trans e)
 ·rw [he.1] at e;exact .inr e
section
variable {P:Program} {Gs:Nat→World→World→Prop} {I:Nat→World→Prop} {F:Nat→Value→World→Prop} {D:List Tmp} {ds:List Deferred} {l:List Oper} {t0:Array Value}
structure Mid3 (KL:List (Nat × Nat)) (l:List Oper) (I:Nat→World→Prop) (F:Nat→Value→World→Prop) (D:List Tmp) (n:Nat) (t0:Array Value) (x:Nat→Value) (listed:Array Bool) (t:Array Value) (w:World):Prop where
 size:listed.size=n
 tsize:t.size=t0.size
 here:∀ j,j < n→listed.getD j true=true→(D.getD j 0 < t0.size→t[D.getD j 0]?=some (x j))∧((∀ k,k < n→kills KL k j=true→listed.getD k true=false)→F j (x j) w)
 wait:∀ j,j < n→listed.getD j true=false→I j w
 fin:I n w
 other:∀ d,(∀ j,j < n→listed.getD j true=true→D.getD j 0 ≠ d)→t[d]?=t0[d]?
 shut:∀ j o,l[j]?=some o→listed.getD j true=true→∀ k ∈ beforeOf o,listed.getD k true=true
theorem reg_mid3 {Q:Exit→Act→World→Prop} {Bs:List (List Nat)} (KL:List (Nat × Nat)) (f:Nat)
  (hF:∀ i j v w w',i < l.length→j < l.length→j ≠ i→waits l f i j=false→kills KL j i=false→F i v w→Gs j w w'→F i v w')
  (hK:∀ i,i < l.length→∀ j ∈ Bs.getD i [],∀ k,k < l.length→kills KL k j=true→k=i∨waits l f k i=true)
  (hI:∀ i j w w',i≤l.length→j < l.length→j ≠ i→waits l f j i=false→I i w→Gs j w w'→I i w')
  (hok:slotsOk2 l D Bs t0.size=true) (hap:slotsApart D l.length=true) (hB:Bs.length=l.length) (ho:Obls2 P Gs I F D ds l t0 l 0 Bs)
  (hQ:∀ w,I l.length w→Given (fun i v w=>killed KL i=false→F i v w) D w t0 (List.range l.length) fun t=>Q .normal ⟨t,ds⟩ w) :
  ∀ (fuel:Nat) (x:Nat→Value) (listed:Array Bool) (t:Array Value) (w:World),Mid3 KL l I F D l.length t0 x listed t w→listed.toList.count false=fuel→wpAny P .any l.toArray Q fuel listed ⟨t,ds⟩ w:=by
 have hapart:∀ i j,i < l.length→j < l.length→D.getD i 0=D.getD j 0→i=j:=by
  intro i j hi hj he
  unfold slotsApart at hap
  have:=List.all_eq_true.1 (List.all_eq_true.1 hap i (by simpa using hi)) j (by simpa using hj)
  rw [Bool.or_eq_true] at this
  rcases this with h | h
  ·simpa using h
  ·rw [he] at h;simp at h
 have hslot:∀ i o,l[i]?=some o→((o.dst=some (D.getD i 0)∧D.getD i 0 < t0.size)∨(o.dst=none∧t0.size≤D.getD i 0))∧(∀ j ∈ Bs.getD i [],j ∈ beforeOf o)∧(∀ j ∈ beforeOf o,j < i)∧(∀ cs b,o.op ≠ .select cs b) ∧
   ∀ d ∈ o.looksAt l.toArray,∀ j oj,l[j]?=some oj→D.getD j 0=d→j ∈ Bs.getD i []∨i ∈ beforeOf oj:=by
  intro i o h
  have hi:i < l.length:=(List.getElem?_eq_some_iff.1 h).1
  unfold slotsOk2 at hok
  have h1:=List.all_eq_true.1 hok i (by simpa using hi)
  rw [h] at h1
  simp only [Bool.and_eq_true] at h1
  obtain ⟨⟨⟨⟨a,c⟩,d⟩,e⟩,g⟩:=h1
  refine ⟨?_,fun j hj=>by simpa using List.all_eq_true.1 c j hj,fun j hj=>by simpa using List.all_eq_true.1 d j hj,fun cs b' he=>?_,fun d' hd' j oj hj hjd=>?_⟩
  ·cases hdst:o.dst with
   | none=>rw [hdst] at a;exact .inr ⟨rfl,by simpa using a⟩
   | some d=>rw [hdst,Bool.and_eq_true,beq_iff_eq] at a;exact .inl ⟨by rw [a.1],by simpa using a.2⟩
  ·rw [he] at e;simp at e
  ·have:=List.all_eq_true.1 (List.all_eq_true.1 g d' hd') j (by simpa using (List.getElem?_eq_some_iff.1 hj).1)
   rw [hj] at this
   simp only [Bool.or_eq_true,bne_iff_ne,ne_eq,hjd,not_true_eq_false,false_or,List.contains_iff_mem] at this
   exact this
 have hfin:∀ (x:Nat→Value) (listed:Array Bool) (t:Array Value) (w:World),Mid3 KL l I F D l.length t0 x listed t w→(∀ j,j < l.length→listed.getD j true=true)→Q .normal ⟨t,ds⟩ w:=by
  intro x listed t w hm hall
  have h1:=(hQ w hm.fin).use x (fun j hj hkl=>(hm.here j (by simpa using hj) (hall j (by simpa using hj))).2 (fun k _ hkk=>absurd hkk (by rw [not_killed hkl];simp)))
  have h2:(List.range l.length).foldl (fun t j=>t.setIfInBounds (D.getD j 0) (x j)) t0=t:=by
   apply Array.ext_getElem?
   intro d
   by_cases hd:∃ j,j < l.length∧D.getD j 0=d
   ·obtain ⟨j,hj,rfl⟩:=hd
    by_cases hin:D.getD j 0 < t0.size
    ·rw [fold_at x _ _ (by simpa using hj) (fun k hk e=>hapart k j (by simpa using hk) hj e) hin,(hm.here j hj (hall j hj)).1 hin]
    ·have hin':t0.size≤D.getD j 0:=Nat.le_of_not_lt hin
     have e1:((List.range l.length).foldl (fun t j=>t.setIfInBounds (D.getD j 0) (x j)) t0).size≤D.getD j 0:=by rw [fold_size];omega
     have e2:t.size≤D.getD j 0:=by rw [hm.tsize];omega
     rw [Array.getElem?_eq_none e1,Array.getElem?_eq_none e2]
   ·rw [fold_other x _ _ (fun j hj e=>hd ⟨j,by simpa using hj,e⟩),hm.other d (fun j hj _ e=>hd ⟨j,hj,e⟩)]
  rw [h2] at h1
  exact h1
 have hnil:∀ (x:Nat→Value) (listed:Array Bool) (t:Array Value) (w:World),Mid3 KL l I F D l.length t0 x listed t w→Region.ready .any l.toArray listed=[]→∀ j,j < l.length→listed.getD j true=true:=by
  intro x listed t w hm hr j
  induction j using Nat.strongRecOn with
  | _ j ih=>
   intro hj
   cases hu:listed.getD j true with
   | true=>rfl
   | false=>
    obtain ⟨o,hoj⟩:∃ o,l[j]?=some o:=⟨_,List.getElem?_eq_getElem hj⟩
    obtain ⟨_,_,hlt,_,_⟩:=hslot j o hoj
    have:=ready_of hoj hu (fun k hk=>by
     have hkj:=hlt k hk
     rw [getD_any false true (by rw [hm.size];omega)]
     exact ih k hkj (by omega))
    rw [hr] at this
    cases this
 intro fuel
 induction fuel with
 | zero=>
  intro x listed t w hm hc
  have hall:∀ j,j < l.length→listed.getD j true=true:=by
   intro j hj
   have hjs:j < listed.size:=by rw [hm.size];exact hj
   have h0:false ∉ listed.toList:=List.count_eq_zero.1 hc
   cases hu:listed.getD j true with
   | true=>rfl
   | false=>
    have:listed.toList[j]=false:=by simpa [Array.getD,hjs] using hu
    exact absurd (this ▸ List.getElem_mem _) h0
  refine ⟨?_,hfin x listed t w hm hall⟩
  cases hr:Region.ready .any l.toArray listed with
  | nil=>rfl
  | cons i r=>
   obtain ⟨o,hoi,hu,_⟩:=ready_mem (l:=l) (listed:=listed) (i:=i) (by rw [hr];simp)
   rw [hall i (List.getElem?_eq_some_iff.1 hoi).1] at hu
   cases hu
 | succ fuel ih=>
  intro x listed t w hm hc
  refine ⟨fun hr=>hfin x listed t w hm (hnil x listed t w hm hr),fun i hi=>?_⟩
  obtain ⟨o,hoi,hu,hbk⟩:=ready_mem hi
  have hil:i < l.length:=(List.getElem?_eq_some_iff.1 hoi).1
  have his:i < listed.size:=by rw [hm.size];exact hil
  obtain ⟨hdst,hbf,hbl,hsel,hlook⟩:=hslot i o hoi
  have hbk':∀ k ∈ beforeOf o,k < l.length∧listed.getD k true=true:=fun k hk=>by
   have:=hbl k hk
   exact ⟨by omega,by rw [getD_any true false (by rw [hm.size];omega)];exact hbk k hk⟩
  have hob:=ho.get (Bs:=Bs) hB i o hoi
  rw [Nat.zero_add] at hob
  have h1:=(hob w (hm.wait i hil hu)).use x (fun j hj=>(hm.here j (hbk' j (hbf j hj)).1 (hbk' j (hbf j hj)).2).2 (fun k hk hkk=>by
   cases hlk:listed.getD k true with
   | false=>rfl
   | true=>
    rcases hK i hil j hj k hk hkk with e | e
    ·rw [e,hu] at hlk;cases hlk
    ·have:=waits_listed hm.shut f k i e hlk
     rw [hu] at this
     cases this))
  have hsame:∀ d ∈ o.looksAt l.toArray,t[d]?=((Bs.getD i []).foldl (fun t j=>t.setIfInBounds (D.getD j 0) (x j)) t0)[d]?:=by
   intro d hd
   by_cases hx:∃ j,j < l.length∧D.getD j 0=d∧j ∈ Bs.getD i []
   ·obtain ⟨j,hj,rfl,hjb⟩:=hx
    by_cases hin:D.getD j 0 < t0.size
    ·rw [(hm.here j hj (hbk' j (hbf j hjb)).2).1 hin,fold_at x _ _ hjb (fun k hk e=>hapart k j (hbk' k (hbf k hk)).1 hj e) hin]
    ·have hin':t0.size≤D.getD j 0:=Nat.le_of_not_lt hin
     have e1:((Bs.getD i []).foldl (fun t j=>t.setIfInBounds (D.getD j 0) (x j)) t0).size≤D.getD j 0:=by rw [fold_size];omega
     have e2:t.size≤D.getD j 0:=by rw [hm.tsize];omega
     rw [Array.getElem?_eq_none e1,Array.getElem?_eq_none e2]
   ·rw [fold_other x _ _ (fun j hj e=>hx ⟨j,(hbk' j (hbf j hj)).1,e,hj⟩)]
    refine hm.other d fun j hj hjl e=>?_
    obtain ⟨oj,hoj⟩:∃ o,l[j]?=some o:=⟨_,List.getElem?_eq_getElem hj⟩
    rcases hlook d hd j oj hoj e with h | h
    ·exact hx ⟨j,hj,e,h⟩
    ·have:=hm.shut j oj hoj hjl i h
     rw [hu] at this
     cases this
  have hnext:∀ v w',Gs i w w'→F i v w'→wpAny P .any l.toArray Q fuel (listed.setIfInBounds i true) ⟨t.setIfInBounds (D.getD i 0) v,ds⟩ w':=by
   intro v w' hg hf
   refine ih (fun j=>if j=i then v else x j) _ _ _ ⟨by simp [hm.size],by simp [hm.tsize],fun j hj hl=>?_,fun j hj hl=>?_,?_,fun d hd=>?_,fun j oj hoj hl k hk=>?_⟩ (by have:=count_set his hu;omega)
   ·rw [getD_set his] at hl
    by_cases hji:i=j
    ·subst hji
     refine ⟨fun hlt=>?_,fun _=>by rw [if_pos rfl];exact hf⟩
     rw [Array.getElem?_setIfInBounds_self,if_pos (by rw [hm.tsize];exact hlt),if_pos rfl]
    ·rw [if_neg hji] at hl
     obtain ⟨h2,h3⟩:=hm.here j hj hl
     rw [Array.getElem?_setIfInBounds_ne (fun e=>hji (hapart i j hil hj e)),if_neg (fun e=>hji e.symm)]
     refine ⟨h2,fun hp=>hF j i _ _ _ hj hil hji ?_ ?_ (h3 (fun k hk hkk=>?_)) hg⟩
     rotate_left
     ·cases hki:kills KL i j with
      | false=>rfl
      | true=>
       have:=hp i hil hki
       rw [getD_set his,if_pos rfl] at this
       cases this
     ·have:=hp k hk hkk
      rw [getD_set his] at this
      by_cases hik:i=k
      ·rw [if_pos hik] at this;cases this
      ·rwa [if_neg hik] at this
     cases hw:waits l f j i with
     | false=>rfl
     | true=>
      have:=waits_listed hm.shut f j i hw hl
      rw [hu] at this
      cases this
   ·rw [getD_set his] at hl
    by_cases hji:i=j
    ·rw [if_pos hji] at hl;cases hl
    ·rw [if_neg hji] at hl
     refine hI j i _ _ (by omega) hil hji ?_ (hm.wait j hj hl) hg
     cases hw:waits l f i j with
     | false=>rfl
     | true=>
      exfalso
      have hset:∀ q p,l[q]?=some p→(listed.setIfInBounds i true).getD q true=true→∀ k ∈ beforeOf p,(listed.setIfInBounds i true).getD k true=true:=by
       intro q p hq hlq k hk;rw [getD_set his] at hlq ⊢
       by_cases hki:i=k
       ·rw [if_pos hki]
       ·rw [if_neg hki]
        by_cases hqi:i=q
        ·subst hqi
         obtain rfl:o=p:=by rw [hoi] at hq;exact Option.some.inj hq
         exact (hbk' k hk).2
        ·rw [if_neg hqi] at hlq
         exact hm.shut q p hq hlq k hk
      have:=waits_listed hset f i j hw (by rw [getD_set his,if_pos rfl])
      rw [getD_set his,if_neg hji,hl] at this
      cases this
   ·refine hI l.length i _ _ (Nat.le_refl _) hil (by omega) ?_ hm.fin hg
    cases hw:waits l f i l.length with
    | false=>rfl
    | true=>
     exfalso
     have:∀ (f q:Nat),waits l f q l.length=true→False:=by
      intro f
      induction f with
      | zero=>intro q h;simp [waits] at h
      | succ f ihf=>
       intro q h
       unfold waits at h
       split at h
       ·cases h
       ·rename_i p hp
        obtain ⟨k,hk,hk2⟩:=List.any_eq_true.1 h
        rw [Bool.or_eq_true] at hk2
        rcases hk2 with e | e
        ·have:=(hslot q p hp).2.2.1 k hk
         have hq:q < l.length:=(List.getElem?_eq_some_iff.1 hp).1
         rw [beq_iff_eq.1 e] at this
         omega
        ·exact ihf k e
     exact this f i hw
   ·have hdi:D.getD i 0 ≠ d:=hd i hil (by rw [getD_set his,if_pos rfl])
    rw [Array.getElem?_setIfInBounds_ne hdi]
    exact hm.other d fun j hj hl=>hd j hj (by rw [getD_set his];split <;> simp [hl])
   ·rw [getD_set his] at hl ⊢
    by_cases hki:i=k
    ·rw [if_pos hki]
    ·rw [if_neg hki]
     by_cases hji:i=j
     ·subst hji
      obtain rfl:o=oj:=by rw [hoi] at hoj;exact Option.some.inj hoj
      exact (hbk' k hk).2
     ·rw [if_neg hji] at hl
      exact hm.shut j oj hoj hl k hk
  have hw:=wanted_same (o:=o) hsame
  unfold wpOp
  rw [show l.toArray[i]?=some o by simpa using hoi]
  show if Region.wanted o (yielded l.toArray t)=true then _ else _
  rw [hw]
  split
  ·rename_i hwt
   replace h1:=h1.1 hwt
   refine .inl ?_
   exact wp_same2 (R:=fun v w'=>Gs i w w'∧F i v w') (by rw [fold_size,hm.tsize]) (by rw [fold_size];exact hdst) (exec_same hsel hsame) h1 (fun v w' hr=>hnext v w' hr.1 hr.2)
  ·rename_i hwt
   replace h1:=h1.2 (by simpa using hwt)
   have hn:=hnext undef w h1.1 h1.2
   rcases hdst with ⟨hd1,_⟩ | ⟨hd1,hd2⟩
   ·rw [hd1];exact hn
   ·rw [hd1]
    have e2:t.setIfInBounds (D.getD i 0) undef=t:=Array.setIfInBounds_eq_of_size_le (by rw [hm.tsize];exact hd2)
    rw [e2] at hn
    exact hn
def AllBear3 (KL:List (Nat × Nat)) (l:List Oper) (f:Nat) (s:Nat) (G:World→World→Prop):List (Value→World→Prop)→Nat→Prop
 | [],_=>True
 | p :: r,i=>(Stays G p∨waits l f i s=true∨i=s∨kills KL s i=true)∧AllBear3 KL l f s G r (i+1)
def BearAll3 (KL:List (Nat × Nat)) (l:List Oper) (f:Nat) (L:List (Value→World→Prop)):List (Nat × (World→World→Prop))→Prop
 | []=>True
 | (s,G) :: r=>AllBear3 KL l f s G L 0∧BearAll3 KL l f L r
theorem AllBear3.get {KL:List (Nat × Nat)} {f s:Nat} {G:World→World→Prop}:∀ {L:List (Value→World→Prop)} {k:Nat},AllBear3 KL l f s G L k→∀ i v w w',s ≠ k+i→waits l f (k+i) s=false→kills KL s (k+i)=false→pickF L i v w→G w w'→pickF L i v w'
 | [],_,_,_,_,_,_,_,_,_,_,_=>by simp [pickF]
 | p :: r,k,h,0,v,w,w',hs,hw,hkl,hp,hg=>by
  rcases h.1 with h1 | h1 | h1 | h1
  ·exact h1 v w w' hp hg
  ·rw [Nat.add_zero] at hw;rw [hw] at h1;cases h1
  ·exact absurd h1.symm hs
  ·rw [Nat.add_zero] at hkl;rw [hkl] at h1;cases h1
 | p :: r,k,h,i+1,v,w,w',hs,hw,hkl,hp,hg=>
  AllBear3.get (L:=r) (k:=k+1) h.2 i v w w' (by omega) (by rw [show k+1+i=k+(i+1) by omega];exact hw) (by rw [show k+1+i=k+(i+1) by omega];exact hkl) hp hg
theorem bear3_get {KL:List (Nat × Nat)} {f:Nat} {L:List (Value→World→Prop)} (hk:AllStay Kept L):∀ {S:List (Nat × (World→World→Prop))},BearAll3 KL l f L S→∀ i j v w w',j ≠ i→waits l f i j=false→kills KL j i=false→pickF L i v w→pickG S j w w'→pickF L i v w'
 | [],_,i,_,v,w,w',_,_,_,hp,hg=>pick_stays hk i v w w' hp hg
 | (s,G) :: r,h,i,j,v,w,w',hne,hw,hkl,hp,hg=>by
  unfold pickG at hg
  by_cases e:j=s
  ·rw [if_pos e] at hg
   subst e
   exact AllBear3.get h.1 i v w w' (by rw [Nat.zero_add];exact hne) (by rw [Nat.zero_add];exact hw) (by rw [Nat.zero_add];exact hkl) hp hg
  ·rw [if_neg e] at hg
   exact bear3_get hk (S:=r) h.2 i j v w w' hne hw hkl hp hg
theorem reg_kill {Q:Exit→Act→World→Prop} {id:Nat} {w:World} (KL:List (Nat × Nat)) (L:List (Value→World→Prop)) (S:List (Nat × (World→World→Prop))) (IL:List (Nat × (World→Prop))) (D:List Tmp) (Bs:List (List Nat)) (Ns:List Nat) (f:Nat) (hm:P.follows .mixedOrders=true)
  (hkok:killOk l f KL Bs=true) (hLk:AllStay Kept L) (hLS:BearAll3 KL l f L S) (hIk:AllKeepI IL) (hIS:BearAllI l f IL S) (h0:HoldI w.drew IL)
  (m:Nat) (hsz:t0.size=m) (hok:slotsOk2 l D Bs m=true) (hap:slotsApart D l.length=true) (hB:Bs.length=l.length) (hN:List.range l.length=Ns) (n:Nat) (hn:l.length=n) (ho:Obls2 P (pickG S) (pickI IL) (pickF L) D ds l t0 l 0 Bs)
  (hQ:∀ w',pickI IL n w'→Given (fun i v w=>killed KL i=false→pickF L i v w) D w' t0 Ns fun t=>Q .normal ⟨t,ds⟩ w'):(Code.region id l.toArray true).wp P Q ⟨t0,ds⟩ w:=by
 subst hsz;subst hN;subst hn
 refine wp_region_any hm (reg_mid3 KL f (fun i j v w w' _ _ hne hw hkl hp hg=>bear3_get hLk hLS i j v w w' hne hw hkl hp hg) (killOk_get hkok) (fun i j w w' _ _ hne hw hp hg=>bearI_get hIk hIS i j w w' hne hw hp hg) hok hap hB ho hQ _ (fun _=>undef) _ _ _ ⟨by simp,rfl,fun j hj hl=>?_,fun j hj _=>hold_get h0 j,hold_get h0 _,fun d _=>rfl,fun j oj hoj hl=>?_⟩ (by simp))
 ·simp [Array.getD,hj] at hl
 ·simp [Array.getD,(List.getElem?_eq_some_iff.1 hoj).1] at hl
end

section
variable {P:Program} {l:List Oper} {Q:Exit→Act→World→Prop}

end

section
variable {P:Program} {k:IntKind} {T e bytes:Nat} {o:Oper} {t:Array Value} {ds:List Deferred} {Q:Exit→Act→World→Prop} {K:Act→World→Prop}
theorem wp_of_run {v:Value} {w w':World} (d:Tmp) (hd:o.dst=some d) (hrun:(execOp (Act.mk t ds).eval o).run P w = .ok (.value v) w') (h:K ⟨t.setIfInBounds d v,ds⟩ w'):Oper.wp P o ⟨t,ds⟩ w K Q:=by
 unfold Oper.wp
 rw [hrun]
 show K ((Act.mk t ds).put o.dst v) w'
 rw [hd]
 exact h
theorem wp_app_all (d:Tmp) (hd:o.dst=some d) (hT:P.underlying T=some (.slice e)) (hI:elemInfo P e k bytes) (hby:bytes≤8) (s x:Operand)
  (ho:o.op = .call { callee:=.builtin .append,args:=#[s,x],argTypes:=#[T,T] }) (w:World) (base:Nat) (v:Value) (l:List Int) (hs:(Act.mk t ds).eval s=v) (hown:Owns k e w base v l)
  (b:Option Addr) (n c:Nat) (lb:List Int) (hx:(Act.mk t ds).eval x = .slice b n c) (hrd:RdAt k w b n c lb) (hlen:l.length+n≤1099511627776) (hbase:base≤w.heap.size)
  (h:∀ v' w',Owns k e w' base v' (l ++ lb)→Grows w v w' v'→K ⟨t.setIfInBounds d v',ds⟩ w') :
  Oper.wp P o ⟨t,ds⟩ w K Q:=by
 obtain ⟨v',w',hr,h1,h2⟩:=run_app_all (P:=P) hT hI hby o.type w base v l hown b n c lb hrd hlen hbase
 refine wp_of_run d hd (v:=v') (w':=w') ?_ (h v' w' h1 h2)
 unfold execOp
 simp only [ho,resolve,invoke,builtin,Sem.run_bind,Sem.run_pure,Result.andThen_ok,List.map_toArray,List.map_cons,List.map_nil,hs,hx,hr]
theorem wp_conv {src dst:TypeId} (d:Tmp) (hd:o.dst=some d) (hs:P.underlying src=some (.slice e)) (he:P.underlying e=some (.int .u8)) (hdt:P.underlying dst=some .string) (x:Operand) (ho:o.op = .convert src dst x)
  {w:World} {a:Option Addr} {n c:Nat} {l:List Int} (hx:(Act.mk t ds).eval x = .slice a n c) (hrd:RdAt .u8 w a n c l)
  (h:K ⟨t.setIfInBounds d (.string (strOfNums l)),ds⟩ w):Oper.wp P o ⟨t,ds⟩ w K Q:=by
 have hr:=conv_rd hs he hdt hrd
 refine wp_of_run d hd ?_ h
 unfold execOp
 simp only [ho,hx]
 simp [hr,Result.andThen]
end
theorem cutOne_one {lo hi:Int} {s:Rg} (h:lo < hi) (hs:¬ (s.lo < lo∧hi < s.hi)):(cutOne lo hi s).length≤1:=by
 unfold cutOne
 by_cases a:s.lo < min s.hi lo
 ·by_cases b:max s.lo hi < s.hi
  ·omega
  ·rw [if_pos a,if_neg b];simp
 ·by_cases b:max s.lo hi < s.hi
  ·rw [if_neg a,if_pos b];simp
  ·rw [if_neg a,if_neg b];simp
theorem cutL_none_long:∀ {L:List Rg} {lo hi:Int},lo < hi→(∀ s ∈ L,¬ (s.lo < lo∧hi < s.hi))→(cutL L lo hi).length≤L.length
 | [],lo,hi,_,_=>by rw [cutL_nil];exact Nat.le_refl _
 | s :: L,lo,hi,h,hs=>by
  rw [cutL_cons h,List.length_append,List.length_cons]
  have h1:=cutOne_one h (hs s (List.mem_cons_self ..))
  have h2:=cutL_none_long (L:=L) h (fun q hq=>hs q (List.mem_cons_of_mem _ hq))
  omega
/-- Of parted regions one at most is cut in two. -/
theorem cutL_one:∀ {L:List Rg} {lo hi:Int},lo < hi→Parted L→(cutL L lo hi).length≤L.length+1
 | [],lo,hi,_,_=>by rw [cutL_nil];simp
 | s :: L,lo,hi,h,hp=>by
  obtain ⟨p1,p2⟩:=List.pairwise_cons.1 hp
  rw [cutL_cons h,List.length_append,List.length_cons]
  by_cases hs:s.lo < lo∧hi < s.hi
  ·have h1:=cutOne_len lo hi s
   have h2:=cutL_none_long (L:=L) h (fun q hq=>by
    have:=p1 q hq
    unfold Apart at this
    omega)
   omega
  ·have h1:=cutOne_one h hs
   have h2:=cutL_one (L:=L) h p2
   omega
theorem wp_appS_one {α:Type} {m:α→List Value} {k:Nat} {e:TypeId} {P:Program} {T bytes:Nat} {z:Value} {o:Oper} {t:Array Value} {ds:List Deferred} {K:Act→World→Prop} {Q:Exit→Act→World→Prop} (C:Cellular m k) (hT:P.underlying T=some (.slice e)) (hI:(P.info? e).map (fun i=>(i.zero,i.size,i.bytes))=some (some z,k,bytes)) (hzc:z.cells.size=k) (hby:bytes≤128) (d:Tmp) (hd:o.dst=some d) (s x:Operand)
  (ho:o.op = .call { callee:=.builtin .append,args:=#[s,x],argTypes:=#[T,T] }) {w:World} (base:Nat) (v:Value) (L:List α) (hs:(Act.mk t ds).eval s=v) (hown:OwnsS m k e w base v L)
  (g c:Nat) (q:α) (hx:(Act.mk t ds).eval x = .slice (some ⟨g,0,none⟩) 1 c) (hrow:w.heap[g]?=some (.cells (m q).toArray e (0,0))) (hlen:L.length < 1000000000000) (hbase:base≤w.heap.size)
  (hK:∀ v' w',OwnsS m k e w' base v' (L ++ [q])→Grows w v w' v'→K ⟨t.setIfInBounds d v',ds⟩ w'):Oper.wp P o ⟨t,ds⟩ w K Q:=by
 obtain ⟨v',w',hr,h1,h2⟩:=run_appS_one (P:=P) C hT hI hzc hby o.type w base v L hown g c q hrow hlen hbase
 refine wp_of_run d hd (v:=v') (w':=w') ?_ (hK v' w' h1 h2)
 unfold execOp
 simp only [ho,resolve,invoke,builtin,Sem.run_bind,Sem.run_pure,Result.andThen_ok,List.map_toArray,List.map_cons,List.map_nil,hs,hx,hr]
end Go.Proofs.YtoepnbfifjgpfaaGreat
