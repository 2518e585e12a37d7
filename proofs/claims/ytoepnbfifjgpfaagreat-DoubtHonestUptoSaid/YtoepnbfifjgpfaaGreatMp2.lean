/- The document's process: where a page is (find). The document's machine: a process' byte stored, its list of pages set, its regions set. An append of all structs of a slice, in an obligation of a drawn region. Plain and in memory: a page set where none is. The document's machine: a stretch's pages, bytes that may be used (stretch, bytes). -/
import Derived.Test.YtoepnbfifjgpfaaGreatMp1
import Derived.WalkKit
import Derived.ProofKit
import Derived.BigQuiet
import Derived.Deep.QuietTactic
import Derived.Lib.Hide
import Derived.RegionTactic
import Derived.Test.YtoepnbfifjgpfaaGreatMu10
import Derived.Test.YtoepnbfifjgpfaaGreatMu11
import Derived.Test.YtoepnbfifjgpfaaGreatMu16
import Derived.Test.YtoepnbfifjgpfaaGreatMu13
import Derived.Test.YtoepnbfifjgpfaaGreatMu2
namespace Go.Proofs.YtoepnbfifjgpfaaGreat
set_option maxRecDepth 100000
open Go.RowKit
set_option linter.unusedSimpArgs false
/-- A page's place among those that were stored to. -/
def pos (L:List (Int × List Int)) (n:Int):Nat:=(L.takeWhile fun x=>decide (x.1 < n)).length
theorem pos_le (L:List (Int × List Int)) (n:Int):pos L n≤L.length:=(List.takeWhile_prefix _).length_le
theorem pos_lt {L:List (Int × List Int)} {n:Int} {k:Nat} (h:k < pos L n):∃ x,L[k]?=some x∧x.1 < n:=by
 unfold pos at h
 have hp:=List.takeWhile_prefix (l:=L) (fun x=>decide (x.1 < n))
 have hl:=hp.length_le
 have e1:(L.takeWhile fun x=>decide (x.1 < n))[k]?=L[k]?:=by
  obtain ⟨t,ht⟩:=hp
  conv=>rhs;rw [← ht]
  rw [List.getElem?_append_left h]
 have e2:(L.takeWhile fun x=>decide (x.1 < n))[k]?=some ((L.takeWhile fun x=>decide (x.1 < n))[k]):=List.getElem?_eq_getElem h
 refine ⟨_,e1.symm.trans e2,?_⟩
 have h3:∀ (l:List (Int × List Int)) (y:Int × List Int),y ∈ (l.takeWhile fun x=>decide (x.1 < n))→y.1 < n:=by
  intro l
  induction l with
  | nil=>intro y hy;simp at hy
  | cons z r ih=>
   intro y hy;rw [List.takeWhile_cons] at hy
   split at hy
   ·rename_i hz
    rcases List.mem_cons.1 hy with rfl | hy
    ·simpa using hz
    ·exact ih y hy
   ·cases hy
 exact h3 L _ (List.getElem_mem _)
theorem pos_at {n:Int}:∀ {L:List (Int × List Int)} {x:Int × List Int},L[pos L n]?=some x→¬ x.1 < n
 | [],x,h=>by simp at h
 | z :: r,x,h=>by
  unfold pos at h
  rw [List.takeWhile_cons] at h
  by_cases hz:z.1 < n
  ·rw [if_pos (by simpa using hz),List.length_cons,List.getElem?_cons_succ] at h
   exact pos_at (L:=r) h
  ·rw [if_neg (by simpa using hz)] at h
   simp at h
   rw [← h]
   exact hz
theorem pos_none {L:List (Int × List Int)} {n:Int} (h:pos L n=L.length):kget L n=none:=by
 refine kget_none (fun p hp e=>?_)
 obtain ⟨i,hi,rfl⟩:=List.getElem_of_mem hp
 obtain ⟨x,hx,hlt⟩:=pos_lt (L:=L) (n:=n) (k:=i) (by omega)
 rw [List.getElem?_eq_getElem hi] at hx
 injection hx with hx
 rw [hx] at e
 omega
theorem pos_kget {L:List (Int × List Int)} (hs:SrtP L) {n:Int} {x:Int × List Int} (h:L[pos L n]?=some x):kget L n=if x.1=n then some x.2 else none:=by
 have hge:=pos_at h
 by_cases e:x.1=n
 ·rw [if_pos e,kget_iff hs,← e]
  exact List.mem_of_getElem? h
 ·rw [if_neg e]
  refine kget_none (fun p hp e1=>?_)
  obtain ⟨i,hi,rfl⟩:=List.getElem_of_mem hp
  obtain ⟨hl,hx⟩:=List.getElem?_eq_some_iff.1 h
  have hpw:=List.pairwise_iff_getElem.1 hs
  rcases Nat.lt_trichotomy i (pos L n) with h1 | h1 | h1
  ·obtain ⟨y,hy,hlt⟩:=pos_lt h1
   rw [List.getElem?_eq_getElem hi] at hy
   injection hy with hy
   rw [hy] at e1
   omega
  ·subst h1
   rw [hx] at e1
   exact e e1
  ·have:=hpw (pos L n) i hl hi h1
   rw [hx] at this
   omega
theorem PrIn.cell {w:World} {No:Nat→Prop} {H:PrH} {R:List Rg} {L:List (Int × List Int)} (p:PrIn w No H R L):∃ ra rn rc la lc,w.cell? ⟨H.b,0,none⟩=some (.slice ra rn rc)∧w.cell? ⟨H.b,1,none⟩=some (.slice la L.length lc)∧SlV Rg.cells 3 w No ra rn rc R∧SlV PgE.cells 2 w No la L.length lc (prL H L):=by
 obtain ⟨ra,rn,rc,la,lc,h1,h2,h3⟩:=p.row
 exact ⟨ra,rn,rc,la,lc,cell_of_row w _ _ _ _ _ h1,cell_of_row w _ _ _ _ _ h1,h2,h3⟩
theorem pge_at {w:World} {No:Nat→Prop} {H:PrH} {la:Option Addr} {lc n:Nat} {L:List (Int × List Int)} (h:SlV PgE.cells 2 w No la n lc (prL H L)) {k:Nat} {x:Int × List Int} (hx:L[k]?=some x) :
  ∃ b o,la=some ⟨b,o,none⟩∧w.cell? ⟨b,o+k * 2,none⟩=some (.int .i64 x.1)∧w.cell? ⟨b,o+k * 2+1,none⟩=some (.slice (some ⟨H.q x.1,0,none⟩) x.2.length (H.cp x.1)):=by
 obtain ⟨b,o,e,hc⟩:=h.1.cell k (prE H x) (by unfold prL;rw [List.getElem?_map,hx];rfl)
 exact ⟨b,o,e,hc 0 _ rfl,hc 1 _ rfl⟩
set_option maxHeartbeats 1000000 in
theorem find18_any {w:World} {No:Nat→Prop} {H:PrH} {R:List Rg} {L:List (Int × List Int)} (p:PrIn w No H R L) (hs:SrtP L) (hl:L.length≤1000000) (n:Int) :
  Calls Tryz.prog 58 #[.pointer (some ⟨H.b,0,none⟩),.int .i64 n] w fun e w'=>e = .returned (.tuple #[.int .i64 (pos L n:Nat),.bool (kget L n).isSome])∧Below w.heap.size w w':=by
 obtain ⟨ra,rn,rc,la,lc,_,c1,_,h3⟩:=p.cell
 obtain ⟨NL,hNL⟩:∃ x,L.length=x:=⟨_,rfl⟩
 have hple:=pos_le L n
 rw [hNL] at hl c1 h3 hple
 obtain ⟨PN,hPN⟩:∃ x,pos L n=x:=⟨_,rfl⟩
 rw [hPN] at hple ⊢
 obtain ⟨KB,hKB⟩:∃ x,(kget L n).isSome=x:=⟨_,rfl⟩
 rw [hKB];have HKB:=Lib.hid hKB;have HPN:=Lib.hid hPN;have HNL:=Lib.hid hNL;have HS:=Lib.hid hs;have H3:=Lib.hid h3;clear p hNL hPN hKB hs h3
 go_enter Tryz.func58,Tryz.ntmps58
 go_wp2_with fail
 go_loop [6] (fun iv=>∃ k:Nat,k≤PN∧iv = .int .i64 k) (fun iv=>PN - (intOf iv).toNat)
 case atStart=>exact ⟨0,by omega,rfl⟩
 case round=>
  obtain ⟨k,hk,rfl⟩:=hrel
  by_cases hlt:k < PN
  ·obtain ⟨x,hx,hxn⟩:=pos_lt (L:=L) (n:=n) (k:=k) (by rw [HPN.out];exact hlt)
   obtain ⟨b,o,rfl,q0,q1⟩:=pge_at H3.out hx
   have dl:decide ((k:Int) < (NL:Int))=true:=decide_eq_true (by omega)
   have dx:decide (x.1 < n)=true:=decide_eq_true hxn
   obtain ⟨x1,x2⟩:=x
   replace q0:w.cell? ⟨b,o+k * 2,none⟩=some (.int .i64 x1):=q0
   replace dx:decide (x1 < n)=true:=dx
   replace hxn:x1 < n:=hxn
   clear hx q1;go_wp2_with fail
   go_round
   case rel=>exact ⟨k+1,by omega,by go_num⟩
   case measure=>simp [intOf] <;> omega
  ·have HE:Hid (k=PN):=by show _=_;omega
   by_cases hln:k < NL
   ·have dl:decide ((k:Int) < (NL:Int))=true:=decide_eq_true (by omega)
    obtain ⟨x,hx⟩:∃ x,L[k]?=some x:=⟨_,List.getElem?_eq_getElem (by have:=HNL.out;omega)⟩
    have hx':L[pos L n]?=some x:=by rw [HPN.out,← HE.out];exact hx
    have hge:=pos_at hx'
    have hkg:=pos_kget HS.out hx'
    obtain ⟨b,o,rfl,q0,q1⟩:=pge_at H3.out hx
    obtain ⟨x1,x2⟩:=x
    replace q0:w.cell? ⟨b,o+k * 2,none⟩=some (.int .i64 x1):=q0
    replace hge:¬ x1 < n:=hge
    have dx:decide (x1 < n)=false:=decide_eq_false hge
    have hkb:(x1 == n)=KB:=by
     rw [← HKB.out,hkg]
     by_cases e:x1=n
     ·rw [if_pos e];simpa using e
     ·rw [if_neg e];simpa using e
    clear hx hx' hkg q1;go_wp2_with fail;go_quiet (fail);go_wp2_with fail
    go_ret2
    exact ⟨by rw [HE.out];rfl,belowN (Below.refl _ _) _⟩
   ·have dl:decide ((k:Int) < (NL:Int))=false:=decide_eq_false (by omega)
    have hkb:KB=false:=by
     rw [← HKB.out,pos_none (by rw [HPN.out,HNL.out];have:=HE.out;omega)]
     rfl
    subst hkb;go_wp2_with fail;go_quiet (fail);go_wp2_with fail
    go_ret2
    exact ⟨by rw [HE.out];rfl,belowN (Below.refl _ _) _⟩
theorem tn_cell (w:World) (g i:Nat) (v:Value):Tn (fun k=>k=g) w (w.setCell ⟨g,i,none⟩ v):=⟨rfl,rfl,rfl,by simp,fun k _ hq=>heap_setCell_other w ⟨g,i,none⟩ k _ (fun e=>hq e)⟩
theorem pgSet_prL {H:PrH} {n:Int} {b b':List Int} (hl:b'.length=b.length):∀ {L:List (Int × List Int)},SrtP L→(n,b) ∈ L→prL H (pgSet L n b')=prL H L
 | [],_,h=>by cases h
 | x :: r,hs,hm=>by
  have h1:=(List.pairwise_cons.1 hs).1
  have h2:=(List.pairwise_cons.1 hs).2
  rw [pgSet]
  by_cases e1:n < x.1
  ·rcases List.mem_cons.1 hm with e | e
   ·rw [← e] at e1;exact absurd e1 (by simp)
   ·have:=h1 _ e;exact absurd this (by simp;omega)
  ·rw [if_neg e1]
   by_cases e2:n=x.1
   ·rw [if_pos e2]
    have e3:x=(n,b):=by
     rcases List.mem_cons.1 hm with e | e
     ·exact e.symm
     ·have:=h1 _ e;exact absurd this (by simp;omega)
    rw [e3]
    unfold prL
    rw [List.map_cons,List.map_cons]
    unfold prE
    simp only [hl]
   ·rw [if_neg e2]
    have e3:(n,b) ∈ r:=by
     rcases List.mem_cons.1 hm with e | e
     ·exact absurd (by rw [← e]) e2
     ·exact e
    have ih:=pgSet_prL hl h2 e3 (H:=H)
    unfold prL at ih ⊢
    rw [List.map_cons,List.map_cons,ih]
theorem PrH.own_set {H:PrH} {L:List (Int × List Int)} (hs:SrtP L) {n:Int} {b:List Int} {k:Nat} (h:H.own (pgSet L n b) k):k=H.q n∨H.own L k:=by
 rcases h with h | ⟨x,hx,hk⟩
 ·exact .inr (.inl h)
 ·rcases (pgSet_mem hs).1 hx with e | ⟨e,_⟩
  ·rw [e] at hk;exact .inl hk
  ·exact .inr (.inr ⟨x,e,hk⟩)
section
variable {w:World} {No:Nat→Prop} {H H':PrH} {R R':List Rg} {L L':List (Int × List Int)}
theorem PrIn.stored (p:PrIn w No H R L) (hs:SrtP L) {n:Int} {b:List Int} (hm:(n,b) ∈ L) (i:Nat) (x:Int) (hx:(Lit.int .u8 x).wf=true):PrIn (w.setCell ⟨H.q n,i,none⟩ (.int .u8 x)) No H R (pgSet L n (b.set i x)):=by
 have t:=tn_cell w (H.q n) i (.int .u8 x)
 have hn0:No (H.q n):=p.no _ (.inr ⟨_,hm,rfl⟩)
 obtain ⟨ra,rn,rc,la,lc,h1,h2,h3⟩:=p.row
 have el:=pgSet_prL (H:=H) (b':=b.set i x) (by simp) hs hm
 have en:(pgSet L n (b.set i x)).length=L.length:=by rw [← prL_len H,el,prL_len]
 have hq:∀ k,k=H.q n→No k:=fun k e=>by rw [e];exact hn0
 refine ⟨⟨ra,rn,rc,la,lc,?_,h2.tn t hq,?_⟩,fun y hy=>?_,fun y hy z hz e=>?_,fun y hy=>?_,fun k hk=>?_⟩
 ·rw [en];exact row_tn h1 t (fun e=>p.ne _ hm e.symm)
 ·rw [el,en];exact h3.tn t hq
 ·rcases (pgSet_mem hs).1 hy with e | ⟨e,hne⟩
  ·rw [e]
   have:=(p.pg _ hm).stored i x hx
   simpa using this
  ·exact owns_tn0 (p.pg y e) t (fun e2=>hne (p.inj y e _ hm e2))
 ·rcases (pgSet_mem hs).1 hy with e1 | ⟨e1,_⟩ <;> rcases (pgSet_mem hs).1 hz with e2 | ⟨e2,_⟩
  ·rw [e1,e2]
  ·rw [e1] at e ⊢;exact p.inj (n,b) hm z e2 e
  ·rw [e2] at e ⊢;exact p.inj y e1 (n,b) hm e
  ·exact p.inj y e1 z e2 e
 ·rcases (pgSet_mem hs).1 hy with e1 | ⟨e1,_⟩
  ·rw [e1];exact p.ne (n,b) hm
  ·exact p.ne y e1
 ·rcases PrH.own_set hs hk with e | e
  ·exact hq k e
  ·exact p.no k e
theorem PrIn.regd (p:PrIn w No H R L) {ra:Option Addr} {rn rc:Nat} (h:SlV Rg.cells 3 w No ra rn rc R'):PrIn (w.setCell ⟨H.b,0,none⟩ (.slice ra rn rc)) No H R' L:=by
 have t:=tn_cell w H.b 0 (.slice ra rn rc)
 have hq:∀ k,k=H.b→No k:=fun k e=>by rw [e];exact p.no _ (.inl rfl)
 obtain ⟨ra',rn',rc',la,lc,h1,h2,h3⟩:=p.row
 refine ⟨⟨ra,rn,rc,la,lc,?_,h.tn t hq,h3.tn t hq⟩,fun y hy=>owns_tn0 (p.pg y hy) t (fun e=>p.ne y hy e),p.inj,p.ne,p.no⟩
 rw [heap_setCell_same w H.b 0 _ _ _ h1];rfl
theorem PrIn.listed (p:PrIn w No H R L) (hb:H'.b=H.b) {la:Option Addr} {ln lc:Nat} (hln:ln=L'.length) (hsl:SlV PgE.cells 2 w No la ln lc (prL H' L'))
  (hpg:∀ x ∈ L',Owns .u8 5 w 0 (.slice (some ⟨H'.q x.1,0,none⟩) x.2.length (H'.cp x.1)) x.2) (inj:∀ x ∈ L',∀ y ∈ L',H'.q x.1=H'.q y.1→x.1=y.1) (ne:∀ x ∈ L',H'.q x.1 ≠ H.b) (no:∀ x ∈ L',No (H'.q x.1)) :
  PrIn (w.setCell ⟨H.b,1,none⟩ (.slice la ln lc)) No H' R L':=by
 subst hln
 have t:=tn_cell w H.b 1 (.slice la L'.length lc)
 have hq:∀ k,k=H.b→No k:=fun k e=>by rw [e];exact p.no _ (.inl rfl)
 obtain ⟨ra,rn,rc,la',lc',h1,h2,h3⟩:=p.row
 refine ⟨⟨ra,rn,rc,la,lc,?_,h2.tn t hq,hsl.tn t hq⟩,fun y hy=>owns_tn0 (hpg y hy) t (fun e=>ne y hy e),inj,fun y hy=>by rw [hb];exact ne y hy,fun k hk=>?_⟩
 ·rw [hb,heap_setCell_same w H.b 1 _ _ _ h1]
  rfl
 ·rcases hk with e | ⟨x,hx,e⟩
  ·rw [e,hb];exact p.no _ (.inl rfl)
  ·rw [e];exact no x hx
end
theorem wp_appS_all {α:Type} {m:α→List Value} {k:Nat} {e:TypeId} {P:Program} {T bytes:Nat} {z:Value} {o:Oper} {t:Array Value} {ds:List Deferred} {K:Act→World→Prop} {Q:Exit→Act→World→Prop} (C:Cellular m k) (hT:P.underlying T=some (.slice e)) (hI:(P.info? e).map (fun i=>(i.zero,i.size,i.bytes))=some (some z,k,bytes)) (hzc:z.cells.size=k) (hby:bytes≤128) (d:Tmp) (hd:o.dst=some d) (s x:Operand)
  (ho:o.op = .call { callee:=.builtin .append,args:=#[s,x],argTypes:=#[T,T] }) {w:World} (base:Nat) (v:Value) (L:List α) (hs:(Act.mk t ds).eval s=v) (hown:OwnsS m k e w base v L)
  (b:Option Addr) (n c:Nat) (M:List α) (hx:(Act.mk t ds).eval x = .slice b n c) (hrd:RdS m k w b n c M) (hlen:L.length+n≤1000000000000) (hbase:base≤w.heap.size)
  (hK:∀ v' w',OwnsS m k e w' base v' (L ++ M)→Grows w v w' v'→K ⟨t.setIfInBounds d v',ds⟩ w'):Oper.wp P o ⟨t,ds⟩ w K Q:=by
 obtain ⟨v',w',hr,h1,h2⟩:=run_appS_all (P:=P) C hT hI hzc hby o.type w base v L hown b n c M hrd hlen hbase
 refine wp_of_run d hd (v:=v') (w':=w') ?_ (hK v' w' h1 h2)
 unfold execOp
 simp only [ho,resolve,invoke,builtin,Sem.run_bind,Sem.run_pure,Result.andThen_ok,List.map_toArray,List.map_cons,List.map_nil,hs,hx,hr]
/-- A page set where none is: its place. -/
theorem pgSet_ins {n:Int} {b:List Int}:∀ {L:List (Int × List Int)},SrtP L→kget L n=none→pgSet L n b=L.take (pos L n) ++ (n,b) :: L.drop (pos L n)
 | [],_,_=>by simp [pgSet,pos]
 | x :: r,hs,hk=>by
  have h1:=List.pairwise_cons.1 hs
  have hne:x.1 ≠ n:=fun e=>kget_no hk x (List.mem_cons_self ..) e
  rw [pgSet]
  by_cases e1:n < x.1
  ·rw [if_pos e1]
   have:pos (x :: r) n=0:=by unfold pos;rw [List.takeWhile_cons_of_neg (by simp;omega)];rfl
   rw [this];rfl
  ·rw [if_neg e1,if_neg (fun e=>hne e.symm)]
   have:pos (x :: r) n=pos r n+1:=by unfold pos;rw [List.takeWhile_cons_of_pos (by simp;omega)];rfl
   rw [this,List.take_succ_cons,List.drop_succ_cons,List.cons_append,pgSet_ins h1.2 (kget_none (fun p hp=>kget_no hk p (List.mem_cons_of_mem _ hp)))]
theorem pgSet_len {n:Int} {b:List Int} {L:List (Int × List Int)} (hs:SrtP L) (hk:kget L n=none):(pgSet L n b).length=L.length+1:=by
 have h1:=pos_le L n
 rw [pgSet_ins hs hk]
 simp
 omega
def PrH.put (H:PrH) (n:Int) (g c:Nat):PrH:=⟨H.b,upd H.q n g,upd H.cp n c⟩
theorem prL_ins (H:PrH) {n:Int} {b:List Int} {g c:Nat} {L:List (Int × List Int)} (hs:SrtP L) (hk:kget L n=none):prL (H.put n g c) (pgSet L n b)=(prL H L).take (pos L n) ++ ⟨n,g,b.length,c⟩ :: (prL H L).drop (pos L n):=by
 rw [pgSet_ins hs hk]
 unfold prL
 have he:∀ x ∈ L,prE (H.put n g c) x=prE H x:=fun x hx=>by
  have hne:=kget_no hk x hx
  unfold prE PrH.put
  simp only
  rw [upd_other _ _ hne,upd_other _ _ hne]
 rw [List.map_append,List.map_cons,← List.map_take,← List.map_drop,List.map_congr_left (fun x hx=>he x (List.mem_of_mem_take hx)),List.map_congr_left (fun x hx=>he x (List.mem_of_mem_drop hx))]
 congr 2
 unfold prE PrH.put
 simp only
 rw [upd_same,upd_same]
theorem PrIn.inserted {w:World} {No:Nat→Prop} {H:PrH} {R:List Rg} {L:List (Int × List Int)} (p:PrIn w No H R L) (hs:SrtP L) {n:Int} {b:List Int} (hk:kget L n=none) {g c ln lc:Nat} {la:Option Addr} (hln:ln=L.length+1)
  (hsl:SlV PgE.cells 2 w No la ln lc ((prL H L).take (pos L n) ++ [⟨n,g,b.length,c⟩] ++ (prL H L).drop (pos L n))) (hg:Owns .u8 5 w 0 (.slice (some ⟨g,0,none⟩) b.length c) b) (hng:No g) (ho:¬ H.own L g) :
  PrIn (w.setCell ⟨H.b,1,none⟩ (.slice la ln lc)) No (H.put n g c) R (pgSet L n b):=by
 have q1:(H.put n g c).q n=g:=upd_same _ _ _
 have q2:∀ x ∈ L,(H.put n g c).q x.1=H.q x.1:=fun x hx=>upd_other _ _ (kget_no hk x hx)
 have c1:(H.put n g c).cp n=c:=upd_same _ _ _
 have c2:∀ x ∈ L,(H.put n g c).cp x.1=H.cp x.1:=fun x hx=>upd_other _ _ (kget_no hk x hx)
 have hm:∀ x ∈ pgSet L n b,x=(n,b)∨x ∈ L:=fun x hx=>((pgSet_mem hs).1 hx).imp id And.left
 have hneq:∀ x ∈ L,H.q x.1 ≠ g:=fun x hx e=>ho (.inr ⟨x,hx,e.symm⟩)
 refine p.listed (H':=H.put n g c) rfl (by rw [hln,pgSet_len hs hk]) (by rw [prL_ins H hs hk];simpa using hsl) (fun x hx=>?_) (fun x hx y hy e=>?_) (fun x hx=>?_) (fun x hx=>?_)
 ·rcases hm x hx with e | e
  ·rw [e];show Owns _ _ _ _ (.slice (some ⟨(H.put n g c).q n,0,none⟩) b.length ((H.put n g c).cp n)) b;rw [q1,c1];exact hg
  ·rw [q2 x e,c2 x e];exact p.pg x e
 ·rcases hm x hx with e1 | e1 <;> rcases hm y hy with e2 | e2
  ·rw [e1,e2]
  ·rw [e1] at e;rw [q2 y e2] at e;rw [show (H.put n g c).q (n,b).1=g from q1] at e;exact absurd e.symm (hneq y e2)
  ·rw [e2] at e;rw [q2 x e1] at e;rw [show (H.put n g c).q (n,b).1=g from q1] at e;exact absurd e (hneq x e1)
  ·rw [q2 x e1,q2 y e2] at e;exact p.inj x e1 y e2 e
 ·rcases hm x hx with e | e
  ·rw [e];show (H.put n g c).q n ≠ H.b;rw [q1];exact fun e=>ho (.inl e)
  ·rw [q2 x e];exact p.ne x e
 ·rcases hm x hx with e | e
  ·rw [e];show No ((H.put n g c).q n);rw [q1];exact hng
  ·rw [q2 x e];exact p.no _ (.inr ⟨x,e,rfl⟩)
theorem PrH.own_put {H:PrH} {L:List (Int × List Int)} (hs:SrtP L) {n:Int} {b:List Int} {g c k:Nat} (h:(H.put n g c).own (pgSet L n b) k):k=g∨H.own L k:=by
 rcases h with e | ⟨x,hx,e⟩
 ·exact .inr (.inl e)
 ·rcases (pgSet_mem hs).1 hx with e1 | ⟨e1,hne⟩
  ·rw [e1] at e;left;rw [e];exact upd_same _ _ _
  ·right;right;exact ⟨x,e1,by rw [e];exact upd_other _ _ hne⟩
/-- A row of structs that is owned: its block's kind. -/
theorem OwnsS.kind {α:Type} {m:α→List Value} {k:Nat} {e:TypeId} {w:World} {base:Nat} {v:Value} {L:List α} (h:OwnsS m k e w base v L):∀ g,room v=some g→base≤g∧∃ cur,w.heap[g]?=some (.cells cur e (0,0)):=by
 intro g hg
 rcases h with ⟨_,a,hv,_⟩ | ⟨_,⟨hv,_⟩ | ⟨g',cap,cur,hv,hb,hh,_⟩⟩
 ·rw [hv,room_empty] at hg;cases hg
 ·rw [hv] at hg;cases hg
 ·have h1:=room_some hg
  rw [hv] at h1
  injection h1 with h1
  rw [← h1]
  exact ⟨hb,cur,hh⟩
theorem Owns.kind {k:IntKind} {e:TypeId} {w:World} {base:Nat} {g n c:Nat} {l:List Int} (h:Owns k e w base (.slice (some ⟨g,0,none⟩) n c) l) (hc:0 < c):∃ cur,w.heap[g]?=some (.cells cur e (0,0)):=by
 obtain ⟨_,h⟩:=h
 rcases h with ⟨_,a,hv,_⟩ | ⟨_,⟨hv,_⟩ | ⟨g',cap,cur,hv,hb,hh,_⟩⟩
 ·injection hv with _ _ e3;omega
 ·cases hv
 ·injection hv with e1
  injection e1 with e1
  injection e1 with e1
  rw [e1]
  exact ⟨cur,hh⟩
theorem kinds_ne {w:World} {g g':Nat} {e e':TypeId} {c c':Array Value} (h:w.heap[g]?=some (.cells c e (0,0))) (h':w.heap[g']?=some (.cells c' e' (0,0))) (hne:e ≠ e'):g ≠ g':=by
 intro eq;rw [eq,h'] at h
 injection h with h
 injection h with _ h
 exact hne h.symm
theorem RdS.front {α:Type} {m:α→List Value} {k:Nat} {w:World} {a:Option Addr} {n c:Nat} {L:List α} (h:RdS m k w a n c L) (q:Nat) (hq:q≤n):RdS m k w a q c (L.take q):=
 ⟨by rw [List.length_take,h.len];omega,Nat.le_trans hq h.cap,h.max,fun i x hx=>h.cell i x (by
  have h1:=(List.getElem?_eq_some_iff.1 hx).1
  rw [List.length_take] at h1;rw [List.getElem?_take_of_lt (by omega)] at hx
  exact hx),h.void⟩
theorem rds_pkI {α:Type} {m:α→List Value} {kk:Nat} {w:World} {ad:Addr} {n c:Nat} {L:List α} (h:RdS m kk w (some ad) n c L) (k:Nat) (hk:k≤n):RdS m kk w (pkI c k (some ad) (some (ad.add (k * kk)))) (n - k) (c - k) (L.drop k):=by
 have hcap:=h.cap
 have hmax:=h.max
 have hl:=h.len
 unfold pkI
 by_cases hc:c=k
 ·rw [if_pos hc]
  rw [show n - k=0 by omega,show c - k=0 by omega,List.drop_of_length_le (by omega)]
  exact ⟨rfl,Nat.le_refl _,by unfold maxLen;omega,fun i x hx=>(by cases hx),fun h=>(by cases h)⟩
 ·rw [if_neg hc]
  refine ⟨by rw [List.length_drop,hl],by omega,by omega,fun i x hx=>?_,fun h=>(by cases h)⟩
  rw [List.getElem?_drop] at hx
  obtain ⟨b',o',e,hcell⟩:=h.cell (k+i) x hx
  injection e with e
  subst e
  refine ⟨b',o'+k * kk,by rw [Addr.add_lit],fun j u hu=>?_⟩
  rw [← hcell j u hu,Nat.add_mul]
  congr 2
  omega
theorem pgT:Tryz.prog.underlying 78=some (.slice 84):=Tryz.underlying78
theorem pg_kinds:84 ≠ (5:TypeId):=by decide
theorem rg_kinds:110 ≠ (84:TypeId):=by decide
theorem u8_kinds:5 ≠ (84:TypeId):=by decide
theorem pr_kinds:80 ≠ (84:TypeId):=by decide
theorem rgp_kinds:110 ≠ (80:TypeId):=by decide
theorem u8p_kinds:5 ≠ (80:TypeId):=by decide
theorem pgp_kinds:84 ≠ (80:TypeId):=by decide
/-- What lies in a row of another kind stays while a row is written. -/
theorem Owns.keepK {k:IntKind} {e e':TypeId} {w w':World} {base g n c:Nat} {l:List Int} {row:Option Nat} (h:Owns k e w base (.slice (some ⟨g,0,none⟩) n c) l) (hn:0 < n) (hg:w.grownBy w' row) (hr:∀ y,row=some y→∃ cur,w.heap[y]?=some (.cells cur e' (0,0))) (hne:e ≠ e'):Owns k e w' base (.slice (some ⟨g,0,none⟩) n c) l:=by
 refine h.grown hg (fun y hy e2=>?_)
 obtain ⟨c1,h1⟩:=h.kind (Nat.lt_of_lt_of_le hn h.rd.cap)
 obtain ⟨c2,h2⟩:=hr y e2.symm
 have h3:=room_some hy
 injection h3 with h3
 exact kinds_ne h1 h2 hne h3
theorem OwnsS.keepK {α:Type} {m:α→List Value} {k:Nat} {e e':TypeId} {w w':World} {base:Nat} {v:Value} {L:List α} {row:Option Nat} (h:OwnsS m k e w base v L) (hg:w.grownBy w' row) (hr:∀ y,row=some y→∃ cur,w.heap[y]?=some (.cells cur e' (0,0))) (hne:e ≠ e'):OwnsS m k e w' base v L:=by
 refine h.grown hg (fun y hy e2=>?_)
 obtain ⟨_,c1,h1⟩:=h.kind y hy
 obtain ⟨c2,h2⟩:=hr y e2.symm
 exact kinds_ne h1 h2 hne rfl
theorem row_keepK {w w':World} {b:Nat} {cs:Array Value} {e e':TypeId} {row:Option Nat} (h:w.heap[b]?=some (.cells cs e (0,0))) (hg:w.grownBy w' row) (hr:∀ y,row=some y→∃ cur,w.heap[y]?=some (.cells cur e' (0,0))) (hne:e ≠ e'):w'.heap[b]?=some (.cells cs e (0,0)):=by
 rw [hg.block b (Array.getElem?_eq_some_iff.1 h).1 (fun e2=>by
  obtain ⟨c2,h2⟩:=hr b e2.symm
  exact kinds_ne h h2 hne rfl)]
 exact h
theorem pgSet_at {n:Int} {b:List Int} {L:List (Int × List Int)} (hs:SrtP L) (hk:kget L n=none):(pgSet L n b)[pos L n]?=some (n,b):=by
 have h1:=pos_le L n
 rw [pgSet_ins hs hk,List.getElem?_append_right (by rw [List.length_take];omega),List.length_take]
 rw [show pos L n - min (pos L n) L.length=0 by omega]
 rfl
theorem rds_none {α:Type} {m:α→List Value} {kk:Nat} {w:World} {n c:Nat} {L:List α} (h:RdS m kk w none n c L) (k:Nat):RdS m kk w none (n - k) (c - k) (L.drop k):=by
 have h1:=h.void rfl
 have h2:=h.cap
 have h3:=h.len
 subst h1
 obtain rfl:n=0:=by omega
 obtain rfl:L=[]:=List.eq_nil_of_length_eq_zero h3
 rw [Nat.zero_sub,List.drop_nil]
 exact h
section
variable {No:Nat→Prop} {h:RmH} {st:Mc} {w:World}
set_option maxHeartbeats 1000000 in
theorem stretch_any (i:RmIn w No h st) (k n:Int) (hk:(Lit.int .i64 k).wf=true) (hn:(Lit.int .i64 n).wf=true) :
  Calls Tryz.prog 54 #[.pointer (some ⟨h.m,0,none⟩),.int .i64 k,.int .i64 n] w fun e w'=>e = .returned (.bool (strB st.c k n))∧Below w.heap.size w w':=by
 obtain ⟨_,_,_,c8,_,_⟩:=i.cells
 have hps:=i.ok.cf.pages
 have hk1:=wf_i64_bd hk
 have hn1:=wf_i64_bd hn
 have hS:strB st.c k n=decide (1≤n∧0≤k∧n≤st.c.pages∧k≤st.c.pages - n):=rfl
 obtain ⟨PG,hPG⟩:∃ x,st.c.pages=x:=⟨_,rfl⟩
 rw [hPG] at c8 hps hS
 obtain ⟨SB,hSB⟩:∃ x,strB st.c k n=x:=⟨_,rfl⟩
 rw [hSB] at hS ⊢;clear i hk hn hPG hSB
 by_cases e0:0≤k
 rotate_left
 ·have d0:decide (0≤k)=false:=decide_eq_false e0
  obtain rfl:SB=false:=by rw [hS];simp;omega
  clear hS e0
  go_enter Tryz.func54,Tryz.ntmps54
  go_wp2
  go_ret
  exact ⟨rfl,Below.refl _ _⟩
 have d0:decide (0≤k)=true:=decide_eq_true e0
 by_cases e1:1≤n
 rotate_left
 ·have d1:decide (1≤n)=false:=decide_eq_false e1
  obtain rfl:SB=false:=by rw [hS];simp;omega
  clear hS e1
  go_enter Tryz.func54,Tryz.ntmps54
  go_wp2
  go_ret
  exact ⟨rfl,Below.refl _ _⟩
 have d1:decide (1≤n)=true:=decide_eq_true e1
 by_cases e2:k≤PG
 rotate_left
 ·have d2:decide (k≤PG)=false:=decide_eq_false e2
  obtain rfl:SB=false:=by rw [hS];simp;omega
  clear hS e2
  go_enter Tryz.func54,Tryz.ntmps54
  go_wp2
  go_ret
  exact ⟨rfl,Below.refl _ _⟩
 have d2:decide (k≤PG)=true:=decide_eq_true e2
 have hpk:PG - k≤65536:=by omega
 have hpk0:0≤PG - k:=by omega
 by_cases e3:n≤PG - k
 rotate_left
 ·have d3:decide (n≤PG - k)=false:=decide_eq_false e3
  obtain rfl:SB=false:=by rw [hS];simp;omega
  clear hS e3
  go_enter Tryz.func54,Tryz.ntmps54
  go_wp2
  go_ret
  exact ⟨rfl,Below.refl _ _⟩
 have d3:decide (n≤PG - k)=true:=decide_eq_true e3
 obtain rfl:SB=true:=by rw [hS];simp;omega
 clear hS
 go_enter Tryz.func54,Tryz.ntmps54
 go_wp2
 go_ret
 exact ⟨rfl,Below.refl _ _⟩
end
end Go.Proofs.YtoepnbfifjgpfaaGreat
