/- The machine: bytes copied into a row of one's own; a page laid. The machine: bytes that are stored. A machine is made. The shelf's contract of slices.SortFunc laid here. slices.Sort of numbers that the call owns. The machine: pages that are let go (maps.DeleteFunc). -/
import Derived.Test.YtoepnbfifjgpfaaGreatMu0
import Derived.Test.YtoepnbfifjgpfaaGreatMu19
import Derived.Laws.CopyOwn
import Derived.Laws.CopyRow
import Derived.Laws.Tables
import Derived.Test.YtoepnbfifjgpfaaGreatMu3
import Derived.Test.YtoepnbfifjgpfaaGreatMu10
import Derived.WalkKit
import Derived.ProofKit
import Derived.BigQuiet
import Derived.Deep.QuietTactic
import Derived.Lib.Hide
import Derived.RegionTactic
import Derived.Test.YtoepnbfifjgpfaaGreatMu16
import Derived.Test.YtoepnbfifjgpfaaGreatMu17
import Derived.Test.YtoepnbfifjgpfaaGreatProg
import Derived.Shelf.Sort.Plain
import Derived.Shelf.Slices.In.SortNone
import Derived.Test.YtoepnbfifjgpfaaGreatMu1
import Derived.Sort.OwnSortedInts
namespace Go.Proofs.YtoepnbfifjgpfaaGreat
set_option maxRecDepth 100000
open Go.RowKit
theorem setRow_grown (w:World) (g:Nat) (cs:Array Value):w.grownBy (w.setRow g cs) (some g):=
  ⟨rfl,rfl,rfl,by simp,fun k _ hk=>setRow_other w g k cs (fun e=>hk (by rw [e]))⟩
theorem splice_map (L:List Int) (i:Nat) (d:List Int):(splice L i d).map (Value.int .u8)=(L.map (Value.int .u8)).take i ++ d.map (Value.int .u8) ++ (L.map (Value.int .u8)).drop (i+d.length):=by
  unfold splice
  simp [List.map_take,List.map_drop]
theorem splice_len {L:List Int} {i:Nat} {d:List Int} (h:i+d.length≤L.length):(splice L i d).length=L.length:=by
  unfold splice
  simp
  omega
theorem splice_wf {L:List Int} {i:Nat} {d:List Int} (h1:∀ x ∈ L,(Lit.int .u8 x).wf=true) (h2:∀ x ∈ d,(Lit.int .u8 x).wf=true):∀ x ∈ splice L i d,(Lit.int .u8 x).wf=true:=fun x hx=>by
  unfold splice at hx
  rcases List.mem_append.1 hx with h | h
  · rcases List.mem_append.1 h with h | h
    · exact h1 x (List.mem_of_mem_take h)
    · exact h2 x h
  · exact h1 x (List.mem_of_mem_drop h)
theorem take_splice {α:Type} (A X R:List α) (i J n:Nat) (hA:A.length=n) (hX:X.length=J) (h:i+J≤n):((A ++ R).take i ++ X ++ (A ++ R).drop (i+J)).take n=A.take i ++ X ++ A.drop (i+J):=by
  have e1:(A ++ R).take i=A.take i:=List.take_append_of_le_length (by omega)
  have e2:(A ++ R).drop (i+J)=A.drop (i+J) ++ R:=List.drop_append_of_le_length (by omega)
  have e3:(A.take i ++ X ++ A.drop (i+J)).length=n:=by simp;omega
  rw [e1,e2,← List.append_assoc,List.take_append_of_le_length (by omega),List.take_of_length_le (by omega)]
/-- 'copy(b[i:], d)' where b is the call's own. -/
theorem own_copy {w : World} {base g o n c : Nat} {l : List Int} (h : Owns .u8 5 w base (.slice (some ⟨g, o, none⟩) n c) l) (i : Nat) (hi : i < n) (sp : Option Addr) (sLen sCap : Nat) (d : List Int) (hs : RdAt .u8 w sp sLen sCap d) (ty : TypeId) (J : Nat) (hJ : J = min sLen (n - i)) (hJ0 : 0 < J) :
    ∃ w',(Builtin.copy_ #[37,37] ty #[.slice (some ⟨g,o+i,none⟩) (n - i) (c - i),.slice sp sLen sCap]).run Tryz.prog w = .ok (.int .i64 (J:Int)) w'∧Owns .u8 5 w' base (.slice (some ⟨g,o,none⟩) n c) (splice l i (d.take J))∧w.grownBy w' (some g):=by
  have hsz:(Tryz.prog.info? 5).map (·.size)=some 1:=by kernel_rfl
  have hln:=h.rd.len
  obtain ⟨hw,h0 | hrow⟩:=h
  · exact absurd h0.1 (by intro e;rw [e] at hln;simp at hln;omega)
  obtain ⟨hxl,h1 | ⟨g',cap,cur,hv,hb,hh,hnc,hcm,hcs,ht⟩⟩:=hrow
  · cases h1.1
  injection hv with e1 e2 e3
  injection e1 with e1
  injection e1 with e1 e4
  subst e1 e3 e4 e2
  rw [Nat.mul_one] at hcs ht
  have hd:=hs.len
  have hdt:(d.take J).length=J:=by rw [List.length_take];omega
  have hX:((d.take J).map (Value.int .u8)).length=J:=by rw [List.length_map,hdt]
  obtain ⟨b2,o2,e2',_⟩:=hs.cell 0 (by omega)
  subst e2'
  have hr:=run_copy_row (P:=Tryz.prog) w 37 37 ty 5 g (0+i) (l.length - i) (c - i) ⟨b2,o2,none⟩ sLen sCap cur 5 ((d.take J).map (Value.int .u8)) u8T hsz hh (by rw [hX];exact hJ) (fun j v hj=>by
    rw [List.getElem?_map] at hj
    obtain ⟨x,hx,rfl⟩:=Option.map_eq_some_iff.1 hj
    have hjl:j < J:=by have:=(List.getElem?_eq_some_iff.1 hx).1;omega
    obtain ⟨b3,o3,e3,hc⟩:=hs.cell j (by omega)
    injection e3 with e3
    injection e3 with e3 e4
    subst e3 e4
    have hx2:nth d j=x:=by
      rw [List.getElem?_take] at hx;rw [if_pos hjl] at hx
      unfold nth List.getD
      rw [hx];rfl
    rw [← hx2]
    by_cases hj0:j=0
    · subst hj0
      simpa [Addr.add] using hc
    · simpa [Addr.add,hj0] using hc) (by rw [hX,hcs];omega) (fun v hv=>by obtain ⟨x,_,rfl⟩:=List.mem_map.1 hv;rfl)
  rw [hX] at hr
  refine ⟨_,hr,⟨splice_wf hw (fun x hx=>hs.wf x (List.mem_of_mem_take hx)),.inr ?_⟩,setRow_grown _ _ _⟩
  have hlen:(splice l i (d.take J)).length=l.length:=splice_len (by omega)
  rw [hlen]
  have hcur:cur.toList=l.map (Value.int .u8) ++ cur.toList.drop l.length:=by
    rw [← ht,List.take_append_drop]
  refine ⟨by rw [List.length_map,hlen,Nat.mul_one],.inr ⟨g,c,_,rfl,hb,setRow_heap w g cur _ 5 _ hh,hnc,hcm,?_,?_⟩⟩
  · simp
    omega
  · rw [Nat.mul_one,splice_map,hdt]
    have hml:(l.map (Value.int .u8)).length=l.length:=List.length_map ..
    rw [hcur,Nat.zero_add]
    exact take_splice _ _ _ _ _ _ hml hX (by omega)
/-- A page laid. -/
theorem McIn.stored {w w' : World} {No : Nat → Prop} {h : McH} {st : Mc} (i : McIn w No h st) {D : List (Int × Value)} {E : List ((Int × Int) × Value)} (e1 : MapG MR w h.lb D) (e3 : RgsIn w No st D) (e4 : PgsIn w No st E)
    {p n:Int} {b:List Int} {v:Value} (hp:st.has p=true) (hf:findB (st.rs p) n=true) (hb:PgOk st.c.page b) (hM:MapG MP w' h.pb (kput E (p,n) v)) (t:Tn (fun k=>k=h.pb) w w') (hv:PgV w' No v b) :
    McIn w' No h { st with ms:=upd st.ms p (pgSet (st.ms p) n b) }:=by
  have q0:∀ k,k=h.pb→No k:=fun k hk=>by rw [hk];exact i.no.2.2.1
  have hlt:=i.set.lt
  refine ⟨row_tn i.row t (fun e=>i.no.2.2.2 (q0 _ e)),row_tn i.set t (fun e=>i.ne.2.1 e),⟨D,kput E (p,n) v,e1.at (t.block _ e1.lt (fun e=>i.ne.2.2 e)),hM,?_,?_⟩,?_,i.no,i.ne,fun k hk=>Nat.lt_of_lt_of_le (i.lt k hk) t.size⟩
  · exact ⟨fun q hq=>⟨(e3.all q hq).1,(e3.all q hq).2.tn t q0⟩,e3.gone⟩
  · refine ⟨fun q hq=>?_,fun s x hx=>?_⟩
    · rcases kput_mem.1 hq with rfl | ⟨hq,hne⟩
      · exact ⟨b,by show (n,b) ∈ upd st.ms p _ p;rw [upd_same];exact (pgSet_mem (i.ok.srt p)).2 (.inl rfl),hv⟩
      · obtain ⟨c,hc,hcv⟩:=e4.all q hq
        refine ⟨c,?_,hcv.tn t q0⟩
        show (q.1.2,c) ∈ upd st.ms p _ q.1.1
        by_cases e:q.1.1=p
        · rw [e,upd_same]
          rw [e] at hc
          exact (pgSet_mem (i.ok.srt p)).2 (.inr ⟨hc,fun e2=>hne (by rw [← e,← e2])⟩)
        · rw [upd_other _ _ e]
          exact hc
    · replace hx:x ∈ upd st.ms p (pgSet (st.ms p) n b) s:=hx
      by_cases e:s=p
      · subst e
        rw [upd_same] at hx
        rcases (pgSet_mem (i.ok.srt s)).1 hx with rfl | ⟨hx,hn⟩
        · exact ⟨v,kput_mem.2 (.inl rfl)⟩
        · obtain ⟨u,hu⟩:=e4.has s x hx
          exact ⟨u,kput_mem.2 (.inr ⟨hu,fun e=>hn (by injection e)⟩)⟩
      · rw [upd_other _ _ e] at hx
        obtain ⟨u,hu⟩:=e4.has s x hx
        exact ⟨u,kput_mem.2 (.inr ⟨hu,fun e2=>e (by injection e2)⟩)⟩
  · refine ⟨i.ok.cf,i.ok.low,i.ok.cn,i.ok.wi,fun q hq=>?_,fun q=>?_,fun q x hx=>?_⟩
    · have hne:q ≠ p:=fun e=>by rw [e] at hq;exact absurd (hp.symm.trans hq) (by simp)
      exact ⟨(i.ok.gone q hq).1,(upd_other _ _ hne).trans (i.ok.gone q hq).2⟩
    · by_cases e:q=p
      · subst e
        show SrtP (upd _ q _ q)
        rw [upd_same]
        exact pgSet_srt (i.ok.srt q)
      · show SrtP (upd _ p _ q)
        rw [upd_other _ _ e]
        exact i.ok.srt q
    · replace hx:x ∈ upd st.ms p (pgSet (st.ms p) n b) q:=hx
      by_cases e:q=p
      · subst e
        rw [upd_same] at hx
        rcases (pgSet_mem (i.ok.srt q)).1 hx with rfl | ⟨hx,_⟩
        · exact ⟨hb,hf⟩
        · exact i.ok.pg q x hx
      · rw [upd_other _ _ e] at hx
        exact i.ok.pg q x hx
set_option linter.unusedSimpArgs false
theorem upd_upd {α:Type} (f:Int→α) (p:Int) (x y:α):upd (upd f p x) p y=upd f p y:=by
  funext q
  unfold upd
  split <;> rfl
theorem upd_id {α:Type} (f:Int→α) (p:Int):upd f p (f p)=f:=by
  funext q
  unfold upd
  split
  · rename_i h;rw [h]
  · rfl
/-- Behind bytes that were stored. -/
def stQ (st:Mc) (p k:Int) (d:List Int):Mc:={ st with ms:=upd st.ms p (storeL st.c.page (st.ms p) k d) }
theorem stQ_nil (st:Mc) (p k:Int):stQ st p k []=st:=by
  unfold stQ
  rw [storeL,upd_id]
theorem stQ_ms (st:Mc) (p k:Int) (d:List Int):(stQ st p k d).ms p=storeL st.c.page (st.ms p) k d:=upd_same _ _ _
theorem stQ_more {st : Mc} {p : Int} (hp : 16 ≤ st.c.page) (hs : SrtP (st.ms p)) (k : Int) (a d : List Int) (hd : d ≠ []) (hl : ((pgB st.c.page (storeL st.c.page (st.ms p) k a) ((k + a.length) / st.c.page)).length : Int) = st.c.page) (hk : (k + a.length) % st.c.page + d.length ≤ st.c.page) :
    { stQ st p k a with ms:=upd (stQ st p k a).ms p (pgSet ((stQ st p k a).ms p) ((k+a.length) / st.c.page) (splice (pgB st.c.page ((stQ st p k a).ms p) ((k+a.length) / st.c.page)) ((k+a.length) % st.c.page).toNat d)) }=stQ st p k (a ++ d):=by
  rw [stQ_ms,← storeL_page hp (storeL_srt hs) hl hd hk]
  unfold stQ
  simp only
  rw [upd_upd,← storeL_append]
theorem PgV.drop {w:World} {No:Nat→Prop} {b o n c:Nat} {l:List Int} (h:RdAt .u8 w (some ⟨b,o,none⟩) n c l) (hn:0 < n→¬ No b) (J:Nat) (hJ:J≤n):PgV w No (.slice (some ⟨b,o+J,none⟩) (n - J) (c - J)) (l.drop J):=
  ⟨_,_,_,rfl,h.dropM J hJ,fun x hx h0=>by injection hx with hx;subst hx;exact hn (by omega)⟩
theorem PgV.dropAll {w:World} {No:Nat→Prop} {b o n c:Nat} {l:List Int} (h:RdAt .u8 w (some ⟨b,o,none⟩) n c l) (J:Nat) (hJ:J≤n) (hc:c=J):PgV w No (.slice (some ⟨b,o,none⟩) (n - J) (c - J)) (l.drop J):=by
  have:=h.cap
  have hl:=h.len
  have e:l.drop J=[]:=List.drop_eq_nil_of_le (by omega)
  refine ⟨_,_,_,rfl,⟨by rw [e];simp;omega,by omega,by have:=h.max;omega,fun i hi=>by omega,by rw [e];simp,fun e=>by cases e⟩,fun x _ h0=>by omega⟩
section
variable {No:Nat→Prop} {h:McH} {st:Mc} {w:World}
set_option maxHeartbeats 4000000 in
theorem store_any (i : McIn w No h st) (p k : Int) (a : Option Addr) (n c : Nat) (d : List Int) (hd : RdAt .u8 w a n c d) (hdx : ∀ x, a = some x → 0 < n → ¬ No x.block) (hp : (Lit.int .i64 p).wf = true) (hhas : st.has p = true) (hk0 : 0 ≤ k) (hk1 : k + n ≤ 268435456)
    (hmap:∀ x,k≤x→x < k+n→findB (st.rs p) (x / st.c.page)=true) :
    Calls Tryz.prog 72 #[.pointer (some ⟨h.m,0,none⟩),.int .i64 p,.int .i64 k,.slice a n c] w fun e w'=>e = .returned (.tuple #[])∧McIn w' No h (stQ st p k d)∧Tn (fun k=>k=h.pb) w w':=by
  have hst:PgV w No (.slice a n c) (d.drop 0)∧McIn w No h (stQ st p k (d.take 0))∧Tn (fun k=>k=h.pb) w w:=by
    refine ⟨⟨a,n,c,rfl,by simpa using hd,hdx⟩,?_,Tn.refl _ _⟩
    rw [List.take_zero,stQ_nil]
    exact i
  have ST:=Lib.hid hst
  have hpg:=i.ok.cf.page
  have HSR:=Lib.hid (i.ok.srt p)
  have HNE:Hid (¬ h.m=h.pb):=fun e=>i.no.2.2.2 (by rw [e];exact i.no.2.2.1)
  obtain ⟨PN,hPN⟩:∃ PN:Nat,st.c.page=(PN:Int):=⟨st.c.page.toNat,by omega⟩
  rw [hPN] at hpg hmap;have HPN:=Lib.hid hPN;have HMP:=Lib.hid hmap;have HP:=Lib.hid hp;have HH:=Lib.hid hhas;have HDL:=Lib.hid hd.len
  have hz:¬ (PN:Int)=0:=by omega
  have hz2:¬ PN=0:=by omega
  clear i hst hd hdx hmap hPN hp hhas
  go_enter Tryz.func72,Tryz.ntmps72
  go_wp2_with fail
  go_loopw [2,3] (fun x v wr=>∃ q:Nat,q≤n∧x = .int .i64 (k+q)∧Hid (PgV wr No v (d.drop q)∧McIn wr No h (stQ st p k (d.take q))∧Tn (fun k=>k=h.pb) w wr)) (fun _ v _=>vlen v)
  case atStart=>exact ⟨0,by omega,by simp,ST⟩
  case round=>
    clear ST
    obtain ⟨q,hq,rfl,HR⟩:=hrel
    obtain ⟨da,dn,dc,rfl,hrd,hdx⟩:=HR.out.1
    have HI:=Lib.hid HR.out.2.1;have HT:=Lib.hid HR.out.2.2
    have hdl:=hrd.len
    rw [List.length_drop,HDL.out] at hdl
    obtain ⟨c4,_,_,_,_,_,c11⟩:=HI.out.cells
    replace c4:wr.cell? ⟨h.m,4,none⟩=some (.int .i64 (PN:Int)):=by rw [← HPN.out];exact c4
    by_cases hlt:0 < dn
    · have dl:decide ((0:Int) < (dn:Int))=true:=decide_eq_true (by omega)
      obtain ⟨R,hR⟩:∃ R:Nat,(k+q) % (PN:Int)=(R:Int):=⟨((k+q) % (PN:Int)).toNat,(Int.toNat_of_nonneg (Int.emod_nonneg _ (by omega))).symm⟩
      have hRl:R < PN:=by have:=Int.emod_lt_of_pos (k+q) (show (0:Int) < PN by omega);omega
      have hq1:(k+q).tdiv (PN:Int)=(k+q) / (PN:Int):=Int.tdiv_eq_ediv_of_nonneg (by omega)
      have hm1:(k+q).tmod (PN:Int)=(R:Int):=by rw [Int.tmod_eq_emod_of_nonneg (by omega),hR]
      have hb1:0≤(k+q) / (PN:Int)∧(k+q) / (PN:Int)≤k+q:=⟨Int.ediv_nonneg (by omega) (by omega),Int.ediv_le_self _ (by omega)⟩
      have hs3:IntKind.i64.wrap ((k+q) / (PN:Int))=(k+q) / (PN:Int):=by rw [IntKind.wrap_i64];omega
      have hs4:IntKind.i64.wrap (R:Int)=(R:Int):=by rw [IntKind.wrap_i64];omega
      have HWQ:=Lib.hid (show (Lit.int .i64 ((k+q) / (PN:Int))).wf=true from WalkArith.wf_i64 ⟨by omega,by omega⟩)
      have HRE:=Lib.hid hR
      have hmp:=HMP.out (k+q) (by omega) (by omega)
      have HF:Hid (findB (st.rs p) ((k+q) / (PN:Int))=true):=hmp
      have hpgq:=pgOk_B (page:=(PN:Int)) hpg.1 (L:=storeL (PN:Int) (st.ms p) k (d.take q)) (fun x hx=>by
        have:=(HI.out.ok.pg p x (by rw [stQ_ms,HPN.out];exact hx)).1
        rw [← HPN.out]
        exact this) ((k+q) / (PN:Int))
      obtain ⟨PB,hPB⟩:∃ x,pgB (PN:Int) (storeL (PN:Int) (st.ms p) k (d.take q)) ((k+q) / (PN:Int))=x:=⟨_,rfl⟩
      have HPB:=Lib.hid hPB;rw [hPB] at hpgq;have HPQ:=Lib.hid hpgq
      have hcall:=page_any HI.out p ((k+q) / (PN:Int)) HP.out HWQ.out
      have hcpg:(stQ st p k (d.take q)).c.page=(PN:Int):=HPN.out
      rw [hcpg,stQ_ms,HPN.out,hPB] at hcall;have HC:=Lib.hid hcall;have HRD:=Lib.hid hrd;have HDX:=Lib.hid hdx;clear hb1 hR hcall hmp hpgq hPB hcpg hrd hdx;go_wp2_with fail
      refine HC.out.mono ?_
      rintro e w1 ⟨a1,m1,c1,rfl,hr1,_,hb1⟩
      have hm1l:m1≤1000000000:=by have:=hr1.len;have:=HPQ.out.1;omega
      have hcl:=clone_any a1 m1 c1 PB w1 hr1 hm1l
      have HCL:=Lib.hid hcl;have HB1:=Lib.hid hb1;clear hr1 hm1l hcl hb1 HC;go_wp2_with fail
      refine HCL.out.mono ?_
      rintro e w2 ⟨v,rfl,ho2,hb2⟩
      have hpl:PB.length=PN:=by have:=HPQ.out.1;omega
      obtain ⟨ba,bc,rfl⟩:=ho2.shapeN PN hpl
      obtain ⟨g,og,rfl,_⟩:=ho2.rd.cell 0 (by omega)
      have hbc:=ho2.rd.cap
      have hgw:wr.heap.size≤g:=Nat.le_trans HB1.out.size (ho2.blk _ rfl (by omega))
      have HB2:=Lib.hid (Below.call HB1.out hb2)
      have hrd2:=HRD.out.below HB2.out
      obtain ⟨J,hJ⟩:∃ J:Nat,J=min dn (PN - R):=⟨_,rfl⟩
      have hJb:0 < J∧J≤dn∧R+J≤PN:=by omega
      obtain ⟨w3,hcp,ho3,hg3⟩:=own_copy ho2 R hRl da dn dc _ hrd2 3 J hJ hJb.1
      have hcR:¬ bc=R:=by omega
      have hRb:(R:Int)≤(bc:Int):=by omega
      have hRp:(R:Int)≤(PN:Int):=by omega
      have hb3:Below wr.heap.size wr w3:=⟨hg3.os.trans HB2.out.os,hg3.tape.trans HB2.out.tape,hg3.output.trans HB2.out.output,Nat.le_trans HB2.out.size hg3.size,fun x hx=>(hg3.block x (Nat.lt_of_lt_of_le hx HB2.out.size) (fun e=>by injection e with e;omega)).trans (HB2.out.block x hx)⟩
      have HB3:=Lib.hid hb3
      have c4b:=cel HB2.out c4
      have c4c:=cel hb3 c4
      have c11c:=cel hb3 c11
      have HO3:=Lib.hid ho3;have HJB:=Lib.hid hJb;have HGW:=Lib.hid hgw
      have HI3:=Lib.hid (HI.out.below hb3)
      obtain ⟨D,E,hE⟩:=HI3.out.dat
      have HE:=Lib.hid hE
      have HRD3:=Lib.hid (HRD.out.below hb3)
      have htn0:Tn (fun k=>k=h.pb) w3 w3.drew:=⟨rfl,rfl,rfl,Nat.le_refl _,fun _ _ _=>rfl⟩
      have hbl0:Below w3.heap.size w3 w3.drew:=⟨rfl,rfl,rfl,Nat.le_refl _,fun _ _=>rfl⟩
      clear ho2 hb2 ho3 hg3 hb3 hE hrd2 hbc hgw hpl HCL hJ hJb;go_wp2_with fail
      refine' reg_order [eqV _,eqV _,eqV _,eqV _,eqV _,eqV _,eqV _,eqV _,eqV _,eqV _,eqV _,eqV _,eqV _,eqV _,(fun _ w5=>MapG MP w5 h.pb (kput E (p,(k+q) / (PN:Int)) (.slice (some ⟨g,og,none⟩) PN bc)))] [(14,fun w5 w6=>World.grownBy w5 w6 (some h.pb))] [(3,fun w5=>Tn (fun k=>k=h.pb) w3 w5),(10,fun w5=>Tn (fun k=>k=h.pb) w3 w5),(14,fun w5=>Below w3.heap.size w3 w5),(15,fun w5=>Tn (fun k=>k=h.pb) w3 w5)] [35,36,37,38,39,40,41,42,43,44,45,46,47,48,69] [[],[0],[1],[2],[],[],[],[6],[7],[8],[9],[5,10],[4,11],[],[3,12,13]] [0,1,2,3,4,5,6,7,8,9,10,11,12,13,14] 15 (by kernel_rfl) ⟨eS _,eS _,eS _,eS _,eS _,eS _,eS _,eS _,eS _,eS _,eS _,eS _,eS _,eS _,fun _ _ _ p b=>p.at (b.block _ p.lt),trivial⟩ ⟨⟨.inl (eS _),.inl (eS _),.inl (eS _),.inl (eS _),.inl (eS _),.inl (eS _),.inl (eS _),.inl (eS _),.inl (eS _),.inl (eS _),.inl (eS _),.inl (eS _),.inl (eS _),.inl (eS _),.inr (.inr rfl),trivial⟩,trivial⟩ ⟨fun _ _ p b=>Tn.call p b,fun _ _ p b=>Tn.call p b,fun _ _ p b=>Below.call p b,fun _ _ p b=>Tn.call p b,trivial⟩ ⟨⟨.inr (.inl (by kernel_rfl)),.inr (.inl (by kernel_rfl)),.inr (.inr rfl),.inl (fun _ _ p g=>Tn.put p g (.inl rfl)),trivial⟩,trivial⟩ ⟨htn0,htn0,hbl0,htn0,trivial⟩ 55 rfl (by kernel_rfl) (by kernel_rfl) rfl rfl 15 rfl ?q1obl ?q1fin
      case q1obl=>
        refine ⟨?q1o0,?q1o1,?q1o2,?q1o3,?q1o4,?q1o5,?q1o6,?q1o7,?q1o8,?q1o9,?q1o10,?q1o11,?q1o12,?q1o13,?q1o14,trivial⟩
        case q1o0 | q1o4 | q1o5 | q1o6 | q1o13=>
         intro w1 hI;refine t2o (by rfl) ?_;intro K hK;go_simp;refine hK _ _ ⟨rfl,Kept.refl _,?_⟩;show _=_;simp only [gv1];rfl
        case q1o1 | q1o2=>
         intro w1 hI;intro va ha;change _=_ at ha;subst va;refine t2o (by rfl) ?_;intro K hK;simp only [gv2];go_simp;refine hK _ _ ⟨rfl,Kept.refl _,?_⟩;show _=_;simp only [gv1];rfl
        case q1o3=>
          intro w1 hI
          replace hI:(fun w5=>Tn (fun k=>k=h.pb) w3 w5) w1:=hI
          intro v2 h2;change _=_ at h2;subst v2;refine t2o (by rfl) ?_;intro K hK;simp only [gv2]
          have hcc:=(World.cell?_of_block (a:=⟨h.m,11,none⟩) (hI.block h.m (block_lt_of_cell c11c) HNE.out)).trans c11c
          go_simp;refine hK _ _ ⟨rfl,Kept.refl _,?_⟩;show _=_;simp only [gv1];rfl
        case q1o7 | q1o8 | q1o9=>
         intro w1 hI;intro va ha;change _=_ at ha;subst va;refine t2o (by rfl) ?_;intro K hK;simp only [gv2];go_simp;refine hK _ _ ⟨rfl,Kept.refl _,?_⟩;show _=_;simp only [gv1];rfl
        case q1o10=>
          intro w1 hI
          replace hI:(fun w5=>Tn (fun k=>k=h.pb) w3 w5) w1:=hI
          intro v9 h9;change _=_ at h9;subst v9;refine t2o (by rfl) ?_;intro K hK;simp only [gv2]
          have hcc:=(World.cell?_of_block (a:=⟨h.m,4,none⟩) (hI.block h.m (block_lt_of_cell c4c) HNE.out)).trans c4c
          go_simp;refine hK _ _ ⟨rfl,Kept.refl _,?_⟩;show _=_;simp only [gv1];rfl
        case q1o11 | q1o12=>
         intro w1 hI;intro va ha;change _=_ at ha;subst va;intro vb hb;change _=_ at hb;subst vb;refine t2o (by rfl) ?_;intro K hK;simp only [gv2];go_simp;refine hK _ _ ⟨rfl,Kept.refl _,?_⟩;show _=_;simp only [gv1];rfl
        case q1o14=>
          intro w1 hI
          replace hI:(fun w5=>Below w3.heap.size w3 w5) w1:=hI
          intro v3 h3;change _=_ at h3;subst v3;intro v12 h12;change _=_ at h12;subst v12;intro v13 h13;change _=_ at h13;subst v13;refine t2o (by rfl) ?_;intro K hK;simp only [gv2]
          obtain ⟨w9,hrun9,hM9,hg9,_⟩:=mg_put (HE.out.2.1.at (hI.block _ HE.out.2.1.lt)) (p,(k+q) / (PN:Int)) (.slice (some ⟨g,og,none⟩) PN bc) ⟨HP.out,HWQ.out⟩
          replace hrun9:(Instr.mapUpdate 99 (.map (some h.pb)) (.agg #[.int .i64 p,.int .i64 ((k+q) / (PN:Int))]) (.slice (some ⟨g,og,none⟩) PN bc)).run Tryz.prog w1 = .ok () w9:=hrun9
          go_simp
          refine hK _ _ ⟨rfl,hg9,?_⟩
          exact hM9
      intro w4 hI
      replace hI:(fun w5=>Tn (fun k=>k=h.pb) w3 w5) w4:=hI
      intro v0 h0;change _=_ at h0;subst v0;intro v1 h1;change _=_ at h1;subst v1;intro v2 h2;change _=_ at h2;subst v2;intro v3 h3;change _=_ at h3;subst v3;intro v4 h4;change _=_ at h4;subst v4;intro v5 h5;change _=_ at h5;subst v5;intro v6 h6;change _=_ at h6;subst v6;intro v7 h7;change _=_ at h7;subst v7;intro v8 h8;change _=_ at h8;subst v8;intro v9 h9
      change _=_ at h9;subst v9;intro v10 h10;change _=_ at h10;subst v10;intro v11 h11;change _=_ at h11;subst v11;intro v12 h12;change _=_ at h12;subst v12;intro v13 h13;change _=_ at h13;subst v13;intro v14 h14
      simp only [Given,gv2]
      have hM4:MapG MP w4 h.pb (kput E (p,(k+q) / (PN:Int)) (.slice (some ⟨g,og,none⟩) PN bc)):=h14
      have hwr:wr.heap.size≤w3.heap.size:=HB3.out.size
      have hpb:h.pb < wr.heap.size:=HI.out.lt _ HI.out.no.2.2.1
      have hcl:((d.drop q).take J).length=J:=by rw [List.length_take,List.length_drop,HDL.out];have:=HJB.out;omega
      have hpbl:PB.length=PN:=by have:=HPQ.out.1;omega
      have hsw:=splice_wf HPQ.out.2 (fun x hx=>HRD.out.wf x (List.mem_of_mem_take hx):∀ x ∈ (d.drop q).take J,(Lit.int .u8 x).wf=true) (i:=R)
      have hsl:(splice PB R ((d.drop q).take J)).length=PN:=by rw [splice_len (by rw [hcl,hpbl];exact HJB.out.2.2)];exact hpbl
      have hrp:RdAt .u8 w4 (some ⟨g,og,none⟩) PN bc (splice PB R ((d.drop q).take J)):=HO3.out.rd.tn hI (fun x hx _ e=>by injection hx with hx;subst hx;have:=HGW.out;replace e:g=h.pb:=e;omega)
      have hi4:=McIn.stored HI3.out HE.out.1 HE.out.2.2.1 HE.out.2.2.2 (p:=p) (n:=(k+q) / (PN:Int)) (b:=splice PB R ((d.drop q).take J)) HH.out HF.out ⟨by show _=st.c.page;rw [HPN.out,hsl],hsw⟩ hM4 hI ⟨_,_,_,rfl,hrp,fun x hx _ hno=>by injection hx with hx;subst hx;have h8:g < wr.heap.size:=HI.out.lt _ hno;have h9:=HGW.out;omega⟩
      have hql:(d.take q).length=q:=by rw [List.length_take,HDL.out];omega
      have hmore:=stQ_more (st:=st) (p:=p) (by rw [HPN.out];exact hpg.1) HSR.out k (d.take q) ((d.drop q).take J) (fun e=>by have h9:=congrArg List.length e;rw [hcl] at h9;have h8:=HJB.out.1;have h7:([]:List Int).length=0:=rfl;omega) (by rw [hql,HPN.out,HPB.out,hpbl]) (by rw [hql,HPN.out,HRE.out,hcl];have h8:=HJB.out.2.2;omega)
      rw [hql,HPN.out,HRE.out,stQ_ms,HPN.out,HPB.out,Int.toNat_natCast,← List.take_add] at hmore
      have hi5:McIn w4 No h (stQ st p k (d.take (q+J))):=by
        rw [← hmore];rw [stQ_ms,HPN.out] at hi4
        exact hi4
      have ht4:Tn (fun k=>k=h.pb) w w4:=HT.out.trans ((Tn.of HB3.out).trans hI)
      have hd4:RdAt .u8 w4 da dn dc (d.drop q):=(HRD.out.below HB3.out).tn hI (fun x hx h0 e=>HDX.out x hx h0 (by replace e:x.block=h.pb:=e;rw [e];exact HI.out.no.2.2.1))
      have hs2:IntKind.i64.wrap (k+(q:Int)+(J:Int))=k+q+J:=by rw [IntKind.wrap_i64];have:=HJB.out;omega
      obtain ⟨db,do_,rfl,_⟩:=hd4.cell 0 hlt
      have hdb:=HDX.out ⟨db,do_,none⟩ rfl
      have hcap:=hd4.cap
      have hJn:(J:Int)≤(dn:Int):=by have:=HJB.out;omega
      have hJc:(J:Int)≤(dc:Int):=by omega
      have hdd:(d.drop q).drop J=d.drop (q+J):=by rw [List.drop_drop]
      have HI5:=Lib.hid hi5;have HT4:=Lib.hid ht4;have HD4:=Lib.hid hd4;have HDB:=Lib.hid hdb;have HDD:=Lib.hid hdd;clear hI h14 hM4 hwr hpb hcl hpbl hsw hsl hrp hi4 hql hmore hi5 ht4 hd4 hdb hdd hcap htn0 hbl0 hcp c4 c4b c4c c11 c11c
      have hbn:∀ nq,Below w4.heap.size w4 (w4.drewN nq):=fun nq=>belowNp (Below.refl _ _) nq
      have HBN:=Lib.hid hbn;clear hbn
      by_cases hcJ:dc=J
      · have HR2 : Hid (∀ nq, PgV (w4.drewN nq) No (.slice (some ⟨db, do_, none⟩) (dn - J) 0) (d.drop (q + J)) ∧ McIn (w4.drewN nq) No h (stQ st p k (d.take (q + J))) ∧ Tn (fun k => k = h.pb) w (w4.drewN nq)) :=
          fun nq=>⟨by rw [← HDD.out];have h9:=PgV.dropAll (No:=No) (HD4.out.below (HBN.out nq)) J HJB.out.2.1 hcJ;rw [show dc - J=0 by omega] at h9;exact h9,HI5.out.below (HBN.out nq),HT4.out.call (HBN.out nq)⟩
        go_wp2_with fail;go_quiet (fail)
        go_wp2
        go_roundw
        case rel=>exact ⟨q+J,by have:=HJB.out;omega,by go_num,Lib.hid (HR2.out _)⟩
        case measure=>simp only [vlen];have:=HJB.out;omega
      · have HR2 : Hid (∀ nq, PgV (w4.drewN nq) No (.slice (some ⟨db, do_ + J, none⟩) (dn - J) (dc - J)) (d.drop (q + J)) ∧ McIn (w4.drewN nq) No h (stQ st p k (d.take (q + J))) ∧ Tn (fun k => k = h.pb) w (w4.drewN nq)) :=
          fun nq=>⟨by rw [← HDD.out];exact PgV.drop (HD4.out.below (HBN.out nq)) HDB.out J HJB.out.2.1,HI5.out.below (HBN.out nq),HT4.out.call (HBN.out nq)⟩
        go_wp2_with fail;go_quiet (fail)
        go_wp2
        go_roundw
        case rel=>exact ⟨q+J,by have:=HJB.out;omega,by go_num,Lib.hid (HR2.out _)⟩
        case measure=>simp only [vlen];have:=HJB.out;omega
    · obtain rfl:dn=0:=by omega
      obtain rfl:q=n:=by omega
      have hfin:McIn wr No h (stQ st p k d):=by
        have:=HI.out
        rw [List.take_of_length_le (by rw [HDL.out];exact Nat.le_refl _)] at this
        exact this
      have HFI:=Lib.hid hfin;clear hfin hrd hdx hlt
      go_wp2
      go_end0
      exact ⟨rfl,HFI.out,HT.out⟩
end
def Cf.val (c:Cf):Value:=.agg #[.int .i64 c.a0,.int .i64 c.a1,.int .i64 c.a2,.int .i64 c.a3,.int .i64 c.page,.int .i64 c.a5,.int .i64 c.procs,.int .i64 c.regions,.int .i64 c.pages]
def mc0 (c:Cf):Mc:=⟨c,0#64,fun _=>[],fun _=>[]⟩
theorem mc0_ok {c:Cf} (h:CfOk c):McOk (mc0 c):=
  ⟨h,lowB_zero _,fun _=>cn_nil _,fun _ r hr=>(by cases hr),fun _ _=>⟨rfl,rfl⟩,fun _=>List.Pairwise.nil,fun _ x hx=>(by cases hx)⟩
theorem cells9 {w:World} {b T:Nat} {x0 x1 x2 x3 x4 x5 x6 x7 x8:Value} (h:w.heap[b]?=some (.cells #[x0,x1,x2,x3,x4,x5,x6,x7,x8] T (0,0))):w.cell? ⟨b,0,none⟩=some x0∧w.cell? ⟨b,1,none⟩=some x1∧w.cell? ⟨b,2,none⟩=some x2∧w.cell? ⟨b,3,none⟩=some x3∧w.cell? ⟨b,4,none⟩=some x4∧w.cell? ⟨b,5,none⟩=some x5∧w.cell? ⟨b,6,none⟩=some x6∧w.cell? ⟨b,7,none⟩=some x7∧w.cell? ⟨b,8,none⟩=some x8:=
  ⟨cell_of_row w b 0 _ _ _ h,cell_of_row w b 1 _ _ _ h,cell_of_row w b 2 _ _ _ h,cell_of_row w b 3 _ _ _ h,cell_of_row w b 4 _ _ _ h,cell_of_row w b 5 _ _ _ h,cell_of_row w b 6 _ _ _ h,cell_of_row w b 7 _ _ _ h,cell_of_row w b 8 _ _ _ h⟩
theorem mc_made {w : World} {sb : Nat} {c : Cf} (hc : CfOk c) (hs : SetAt w sb c.procs 0#64) :
    McIn (((w.alloc (.map #[] 0)).alloc (.map #[] 0)).alloc (.cells #[.int .i64 c.a0,.int .i64 c.a1,.int .i64 c.a2,.int .i64 c.a3,.int .i64 c.page,.int .i64 c.a5,.int .i64 c.procs,.int .i64 c.regions,.int .i64 c.pages,.pointer (some ⟨sb,0,none⟩),.map (some w.heap.size),.map (some (w.heap.size+1))] 101)) (McH.own ⟨w.heap.size+1+1,sb,w.heap.size,w.heap.size+1⟩) ⟨w.heap.size+1+1,sb,w.heap.size,w.heap.size+1⟩ (mc0 c):=by
  have hlt:=hs.lt
  have b3:=below_a3 w (.map #[] 0) (.map #[] 0) (.cells #[.int .i64 c.a0,.int .i64 c.a1,.int .i64 c.a2,.int .i64 c.a3,.int .i64 c.page,.int .i64 c.a5,.int .i64 c.procs,.int .i64 c.regions,.int .i64 c.pages,.pointer (some ⟨sb,0,none⟩),.map (some w.heap.size),.map (some (w.heap.size+1))] 101)
  have m1:MapG MR (w.alloc (.map #[] 0)) w.heap.size []:=mg_made w
  have m2:MapG MP ((w.alloc (.map #[] 0)).alloc (.map #[] 0)) (w.heap.size+1) []:=by
    have:=mg_made (M:=MP) (w.alloc (.map #[] 0))
    simpa using this
  refine ⟨new_3 w _ _ _ _,hs.below b3,⟨[],[],(m1.grown (World.grownBy_alloc _ _ none) (by simp)).grown (World.grownBy_alloc _ _ none) (by simp),m2.grown (World.grownBy_alloc _ _ none) (by simp),⟨fun p hp=>(by cases hp),fun _ _=>rfl⟩,⟨fun p hp=>(by cases hp),fun _ x hx=>(by cases hx)⟩⟩,mc0_ok hc,⟨.inl rfl,.inr (.inl rfl),.inr (.inr rfl),?_⟩,⟨?_,?_,?_⟩,?_⟩
  · rintro (e | e | e)
    · replace e:w.heap.size+1+1=sb:=e
      omega
    · replace e:w.heap.size+1+1=w.heap.size:=e
      omega
    · replace e:w.heap.size+1+1=w.heap.size+1:=e
      omega
  · show sb ≠ w.heap.size
    omega
  · show sb ≠ w.heap.size+1
    omega
  · show w.heap.size ≠ w.heap.size+1
    omega
  · intro k hk
    have hsz:(((w.alloc (.map #[] 0)).alloc (.map #[] 0)).alloc (.cells #[.int .i64 c.a0,.int .i64 c.a1,.int .i64 c.a2,.int .i64 c.a3,.int .i64 c.page,.int .i64 c.a5,.int .i64 c.procs,.int .i64 c.regions,.int .i64 c.pages,.pointer (some ⟨sb,0,none⟩),.map (some w.heap.size),.map (some (w.heap.size+1))] 101)).heap.size=w.heap.size+1+1+1:=by simp
    rw [hsz]
    rcases hk with e | e | e
    · replace e:k=sb:=e
      omega
    · replace e:k=w.heap.size:=e
      omega
    · replace e:k=w.heap.size+1:=e
      omega
section
variable (c:Cf) (w:World)
theorem newmc_p (h:c.procs < 1∨64 < c.procs):Calls Tryz.prog 23 #[c.val] w fun e w'=>e = .returned (.tuple #[.pointer none,.int .i64 1])∧Below w.heap.size w w':=by
  unfold Cf.val
  have hrow:=heap_alloc_new w (.cells #[.int .i64 c.a0,.int .i64 c.a1,.int .i64 c.a2,.int .i64 c.a3,.int .i64 c.page,.int .i64 c.a5,.int .i64 c.procs,.int .i64 c.regions,.int .i64 c.pages] 23)
  have hb0:=below_a w (.cells #[.int .i64 c.a0,.int .i64 c.a1,.int .i64 c.a2,.int .i64 c.a3,.int .i64 c.page,.int .i64 c.a5,.int .i64 c.procs,.int .i64 c.regions,.int .i64 c.pages] 23)
  obtain ⟨y0,y1,y2,y3,y4,y5,y6,y7,y8⟩:=cells9 hrow
  have HROW:=Lib.hid hrow;have HB0:=Lib.hid hb0;clear hrow hb0
  have HC:=Lib.hid (newset_no c.procs (w.alloc (.cells #[.int .i64 c.a0,.int .i64 c.a1,.int .i64 c.a2,.int .i64 c.a3,.int .i64 c.page,.int .i64 c.a5,.int .i64 c.procs,.int .i64 c.regions,.int .i64 c.pages] 23)) h)
  clear h
  go_enter Tryz.func23,Tryz.ntmps23
  go_wp2_with fail
  refine HC.out.mono ?_
  rintro e w2 ⟨rfl,rfl⟩
  go_wp2
  go_ret2
  exact ⟨rfl,HB0.out⟩
set_option maxHeartbeats 2000000 in
theorem newmc_c (hp1:1≤c.procs) (hp2:c.procs≤64) (h:¬ CfOk c):Calls Tryz.prog 23 #[c.val] w fun e w'=>e = .returned (.tuple #[.pointer none,.int .i64 1])∧Below w.heap.size w w':=by
  unfold Cf.val
  have hrow:=heap_alloc_new w (.cells #[.int .i64 c.a0,.int .i64 c.a1,.int .i64 c.a2,.int .i64 c.a3,.int .i64 c.page,.int .i64 c.a5,.int .i64 c.procs,.int .i64 c.regions,.int .i64 c.pages] 23)
  have hb0:=below_a w (.cells #[.int .i64 c.a0,.int .i64 c.a1,.int .i64 c.a2,.int .i64 c.a3,.int .i64 c.page,.int .i64 c.a5,.int .i64 c.procs,.int .i64 c.regions,.int .i64 c.pages] 23)
  obtain ⟨y0,y1,y2,y3,y4,y5,y6,y7,y8⟩:=cells9 hrow
  have HROW:=Lib.hid hrow;have HB0:=Lib.hid hb0;clear hrow hb0
  by_cases e0:c.page < 16
  · have d0:decide (c.page < 16)=true:=decide_eq_true e0
    clear h
    have HC:=Lib.hid (newset_yes c.procs (w.alloc (.cells #[.int .i64 c.a0,.int .i64 c.a1,.int .i64 c.a2,.int .i64 c.a3,.int .i64 c.page,.int .i64 c.a5,.int .i64 c.procs,.int .i64 c.regions,.int .i64 c.pages] 23)) hp1 hp2)
    go_enter Tryz.func23,Tryz.ntmps23
    go_wp2_with fail
    refine HC.out.mono ?_
    rintro e w2 ⟨rfl,hs2,hb2⟩
    have hrow2:=row_keep HROW.out hb2
    replace y0:=(cells9 hrow2).1
    obtain ⟨z0,z1,z2,z3,z4,z5,z6,z7,z8⟩:=cells9 hrow2
    have HS2:=Lib.hid hs2
    have HB2:=Lib.hid (Below.call HB0.out hb2)
    clear hs2 hb2 hrow2 y0 y1 y2 y3 y4 y5 y6 y7 y8
    go_wp2
    go_ret2
    exact ⟨rfl,HB2.out⟩
  have d0:decide (c.page < 16)=false:=decide_eq_false e0
  by_cases e1:4096 < c.page
  · have d1:decide (4096 < c.page)=true:=decide_eq_true e1
    clear h
    have HC:=Lib.hid (newset_yes c.procs (w.alloc (.cells #[.int .i64 c.a0,.int .i64 c.a1,.int .i64 c.a2,.int .i64 c.a3,.int .i64 c.page,.int .i64 c.a5,.int .i64 c.procs,.int .i64 c.regions,.int .i64 c.pages] 23)) hp1 hp2)
    go_enter Tryz.func23,Tryz.ntmps23
    go_wp2_with fail
    refine HC.out.mono ?_
    rintro e w2 ⟨rfl,hs2,hb2⟩
    have hrow2:=row_keep HROW.out hb2
    replace y0:=(cells9 hrow2).1
    obtain ⟨z0,z1,z2,z3,z4,z5,z6,z7,z8⟩:=cells9 hrow2
    have HS2:=Lib.hid hs2
    have HB2:=Lib.hid (Below.call HB0.out hb2)
    clear hs2 hb2 hrow2 y0 y1 y2 y3 y4 y5 y6 y7 y8
    go_wp2
    go_ret2
    exact ⟨rfl,HB2.out⟩
  have d1:decide (4096 < c.page)=false:=decide_eq_false e1
  by_cases e2:c.regions < 1
  · have d2:decide (c.regions < 1)=true:=decide_eq_true e2
    clear h
    have HC:=Lib.hid (newset_yes c.procs (w.alloc (.cells #[.int .i64 c.a0,.int .i64 c.a1,.int .i64 c.a2,.int .i64 c.a3,.int .i64 c.page,.int .i64 c.a5,.int .i64 c.procs,.int .i64 c.regions,.int .i64 c.pages] 23)) hp1 hp2)
    go_enter Tryz.func23,Tryz.ntmps23
    go_wp2_with fail
    refine HC.out.mono ?_
    rintro e w2 ⟨rfl,hs2,hb2⟩
    have hrow2:=row_keep HROW.out hb2
    replace y0:=(cells9 hrow2).1
    obtain ⟨z0,z1,z2,z3,z4,z5,z6,z7,z8⟩:=cells9 hrow2
    have HS2:=Lib.hid hs2
    have HB2:=Lib.hid (Below.call HB0.out hb2)
    clear hs2 hb2 hrow2 y0 y1 y2 y3 y4 y5 y6 y7 y8
    go_wp2
    go_ret2
    exact ⟨rfl,HB2.out⟩
  have d2:decide (c.regions < 1)=false:=decide_eq_false e2
  by_cases e3:32 < c.regions
  · have d3:decide (32 < c.regions)=true:=decide_eq_true e3
    clear h
    have HC:=Lib.hid (newset_yes c.procs (w.alloc (.cells #[.int .i64 c.a0,.int .i64 c.a1,.int .i64 c.a2,.int .i64 c.a3,.int .i64 c.page,.int .i64 c.a5,.int .i64 c.procs,.int .i64 c.regions,.int .i64 c.pages] 23)) hp1 hp2)
    go_enter Tryz.func23,Tryz.ntmps23
    go_wp2_with fail
    refine HC.out.mono ?_
    rintro e w2 ⟨rfl,hs2,hb2⟩
    have hrow2:=row_keep HROW.out hb2
    replace y0:=(cells9 hrow2).1
    obtain ⟨z0,z1,z2,z3,z4,z5,z6,z7,z8⟩:=cells9 hrow2
    have HS2:=Lib.hid hs2
    have HB2:=Lib.hid (Below.call HB0.out hb2)
    clear hs2 hb2 hrow2 y0 y1 y2 y3 y4 y5 y6 y7 y8
    go_wp2
    go_ret2
    exact ⟨rfl,HB2.out⟩
  have d3:decide (32 < c.regions)=false:=decide_eq_false e3
  by_cases e4:c.pages < 1
  · have d4:decide (c.pages < 1)=true:=decide_eq_true e4
    clear h
    have HC:=Lib.hid (newset_yes c.procs (w.alloc (.cells #[.int .i64 c.a0,.int .i64 c.a1,.int .i64 c.a2,.int .i64 c.a3,.int .i64 c.page,.int .i64 c.a5,.int .i64 c.procs,.int .i64 c.regions,.int .i64 c.pages] 23)) hp1 hp2)
    go_enter Tryz.func23,Tryz.ntmps23
    go_wp2_with fail
    refine HC.out.mono ?_
    rintro e w2 ⟨rfl,hs2,hb2⟩
    have hrow2:=row_keep HROW.out hb2
    replace y0:=(cells9 hrow2).1
    obtain ⟨z0,z1,z2,z3,z4,z5,z6,z7,z8⟩:=cells9 hrow2
    have HS2:=Lib.hid hs2
    have HB2:=Lib.hid (Below.call HB0.out hb2)
    clear hs2 hb2 hrow2 y0 y1 y2 y3 y4 y5 y6 y7 y8
    go_wp2
    go_ret2
    exact ⟨rfl,HB2.out⟩
  have d4:decide (c.pages < 1)=false:=decide_eq_false e4
  by_cases e5:65536 < c.pages
  · have d5:decide (65536 < c.pages)=true:=decide_eq_true e5
    clear h
    have HC:=Lib.hid (newset_yes c.procs (w.alloc (.cells #[.int .i64 c.a0,.int .i64 c.a1,.int .i64 c.a2,.int .i64 c.a3,.int .i64 c.page,.int .i64 c.a5,.int .i64 c.procs,.int .i64 c.regions,.int .i64 c.pages] 23)) hp1 hp2)
    go_enter Tryz.func23,Tryz.ntmps23
    go_wp2_with fail
    refine HC.out.mono ?_
    rintro e w2 ⟨rfl,hs2,hb2⟩
    have hrow2:=row_keep HROW.out hb2
    replace y0:=(cells9 hrow2).1
    obtain ⟨z0,z1,z2,z3,z4,z5,z6,z7,z8⟩:=cells9 hrow2
    have HS2:=Lib.hid hs2
    have HB2:=Lib.hid (Below.call HB0.out hb2)
    clear hs2 hb2 hrow2 y0 y1 y2 y3 y4 y5 y6 y7 y8
    go_wp2
    go_ret2
    exact ⟨rfl,HB2.out⟩
  have d5:decide (65536 < c.pages)=false:=decide_eq_false e5
  exact absurd (⟨by omega,by omega,by omega,by omega⟩:CfOk c) h
theorem newmc_no (h:¬ CfOk c):Calls Tryz.prog 23 #[c.val] w fun e w'=>e = .returned (.tuple #[.pointer none,.int .i64 1])∧Below w.heap.size w w':=by
  by_cases hp:c.procs < 1∨64 < c.procs
  · exact newmc_p c w hp
  · exact newmc_c c w (by omega) (by omega) h
set_option maxHeartbeats 2000000 in
theorem newmc_yes (h:CfOk c):Calls Tryz.prog 23 #[c.val] w fun e w'=>∃ hh:McH,e = .returned (.tuple #[.pointer (some ⟨hh.m,0,none⟩),.int .i64 0])∧McIn w' hh.own hh (mc0 c)∧(∀ k,hh.own k→w.heap.size≤k)∧w.heap.size≤hh.m∧Below w.heap.size w w':=by
  unfold Cf.val
  have hrow:=heap_alloc_new w (.cells #[.int .i64 c.a0,.int .i64 c.a1,.int .i64 c.a2,.int .i64 c.a3,.int .i64 c.page,.int .i64 c.a5,.int .i64 c.procs,.int .i64 c.regions,.int .i64 c.pages] 23)
  have hb0:=below_a w (.cells #[.int .i64 c.a0,.int .i64 c.a1,.int .i64 c.a2,.int .i64 c.a3,.int .i64 c.page,.int .i64 c.a5,.int .i64 c.procs,.int .i64 c.regions,.int .i64 c.pages] 23)
  obtain ⟨y0,y1,y2,y3,y4,y5,y6,y7,y8⟩:=cells9 hrow
  have HROW:=Lib.hid hrow;have HB0:=Lib.hid hb0;clear hrow hb0
  have hp1:=h.procs.1
  have hp2:=h.procs.2
  have HOK:=Lib.hid h
  have d0:decide (c.page < 16)=false:=decide_eq_false (by have:=h.page;have:=h.regions;have:=h.pages;omega)
  have d1:decide (4096 < c.page)=false:=decide_eq_false (by have:=h.page;have:=h.regions;have:=h.pages;omega)
  have d2:decide (c.regions < 1)=false:=decide_eq_false (by have:=h.page;have:=h.regions;have:=h.pages;omega)
  have d3:decide (32 < c.regions)=false:=decide_eq_false (by have:=h.page;have:=h.regions;have:=h.pages;omega)
  have d4:decide (c.pages < 1)=false:=decide_eq_false (by have:=h.page;have:=h.regions;have:=h.pages;omega)
  have d5:decide (65536 < c.pages)=false:=decide_eq_false (by have:=h.page;have:=h.regions;have:=h.pages;omega)
  have hmm:=@run_makeMap Tryz.prog
  clear h
  have HC:=Lib.hid (newset_yes c.procs (w.alloc (.cells #[.int .i64 c.a0,.int .i64 c.a1,.int .i64 c.a2,.int .i64 c.a3,.int .i64 c.page,.int .i64 c.a5,.int .i64 c.procs,.int .i64 c.regions,.int .i64 c.pages] 23)) hp1 hp2)
  go_enter Tryz.func23,Tryz.ntmps23
  go_wp2_with fail
  refine HC.out.mono ?_
  rintro e w2 ⟨rfl,hs2,hb2⟩
  have hrow2:=row_keep HROW.out hb2
  replace y0:=(cells9 hrow2).1
  obtain ⟨z0,z1,z2,z3,z4,z5,z6,z7,z8⟩:=cells9 hrow2
  have HS2:=Lib.hid hs2
  have HB2:=Lib.hid (Below.call HB0.out hb2)
  clear hs2 hb2 hrow2 y0 y1 y2 y3 y4 y5 y6 y7 y8
  go_wp2
  go_ret2
  have hsz:=HB2.out.size
  have hs3:SetAt w2 (w.heap.size+1) c.procs 0#64:=by simpa using HS2.out
  have hsl:=hs3.lt
  refine ⟨⟨_,_,_,_⟩,rfl,mc_made HOK.out hs3,?_,?_,?_⟩
  · rintro k (e | e | e)
    · replace e:k=w.heap.size+1:=e
      omega
    · replace e:k=w2.heap.size:=e
      omega
    · replace e:k=w2.heap.size+1:=e
      omega
  · show w.heap.size≤w2.heap.size+1+1
    omega
  · exact Below.call HB2.out (below_a3 _ _ _ _)
end
open Go.Shelf Go.RowKit Go.Proofs
def sortI_ren:Go.Shelf.Ren:=⟨fun | 189=>81 | 125=>96 | 257=>95 | 128=>113 | 129=>114 | 294=>104 | 295=>105 | 296=>106 | 297=>107 | 298=>108 | 299=>109 | 216=>110 | 300=>111 | 301=>112 | 328=>119 | 329=>120 | 330=>121 | 331=>122 | 332=>123 | 215=>124 | 343=>126 | n=>n,fun | 28=>40 | 3=>3 | 46=>158 | 0=>0 | 51=>174 | 53=>36 | 4=>4 | 183=>168 | 182=>167 | 131=>116 | 5=>5 | 9=>9 | 218=>179 | 222=>183 | 228=>186 | 229=>75 | n=>n,fun | n=>n⟩
theorem sortI:Go.Proofs.Lays.n189 Tryz.prog sortI_ren:=
  { mixed:=by kernel_rfl,
    f125:=Tryz.func96.trans (congrArg some (by kernel_rfl)),
    f128:=Tryz.func113.trans (congrArg some (by kernel_rfl)),
    f129:=Tryz.func114.trans (congrArg some (by kernel_rfl)),
    f189:=Tryz.func81.trans (congrArg some (by kernel_rfl)),
    f215:=Tryz.func124.trans (congrArg some (by kernel_rfl)),
    f216:=Tryz.func110.trans (congrArg some (by kernel_rfl)),
    f257:=Tryz.func95.trans (congrArg some (by kernel_rfl)),
    f294:=Tryz.func104.trans (congrArg some (by kernel_rfl)),
    f295:=Tryz.func105.trans (congrArg some (by kernel_rfl)),
    f296:=Tryz.func106.trans (congrArg some (by kernel_rfl)),
    f297:=Tryz.func107.trans (congrArg some (by kernel_rfl)),
    f298:=Tryz.func108.trans (congrArg some (by kernel_rfl)),
    f299:=Tryz.func109.trans (congrArg some (by kernel_rfl)),
    f300:=Tryz.func111.trans (congrArg some (by kernel_rfl)),
    f301:=Tryz.func112.trans (congrArg some (by kernel_rfl)),
    f328:=Tryz.func119.trans (congrArg some (by kernel_rfl)),
    f329:=Tryz.func120.trans (congrArg some (by kernel_rfl)),
    f330:=Tryz.func121.trans (congrArg some (by kernel_rfl)),
    f331:=Tryz.func122.trans (congrArg some (by kernel_rfl)),
    f332:=Tryz.func123.trans (congrArg some (by kernel_rfl)),
    f343:=Tryz.func126.trans (congrArg some (by kernel_rfl)),
    t0:=Tryz.underlying0,
    a0:=Tryz.isAgg0,
    z0:=Tryz.sizeOf0,
    v0:=Tryz.zeroValue0,
    t3:=Tryz.underlying3,
    a3:=Tryz.isAgg3,
    z3:=Tryz.sizeOf3,
    v3:=Tryz.zeroValue3,
    t4:=Tryz.underlying4,
    a4:=Tryz.isAgg4,
    z4:=Tryz.sizeOf4,
    v4:=Tryz.zeroValue4,
    t5:=Tryz.underlying5,
    a5:=Tryz.isAgg5,
    z5:=Tryz.sizeOf5,
    v5:=Tryz.zeroValue5,
    t9:=Tryz.underlying9,
    a9:=Tryz.isAgg9,
    z9:=Tryz.sizeOf9,
    v9:=Tryz.zeroValue9,
    t28:=Tryz.underlying40,
    a28:=Tryz.isAgg40,
    z28:=Tryz.sizeOf40,
    v28:=Tryz.zeroValue40,
    t46:=Tryz.underlying158,
    a46:=Tryz.isAgg158,
    z46:=Tryz.sizeOf158,
    v46:=Tryz.zeroValue158,
    t51:=Tryz.underlying174,
    a51:=Tryz.isAgg174,
    z51:=Tryz.sizeOf174,
    v51:=Tryz.zeroValue174,
    t53:=Tryz.underlying36,
    a53:=Tryz.isAgg36,
    z53:=Tryz.sizeOf36,
    v53:=Tryz.zeroValue36,
    t131:=Tryz.underlying116,
    a131:=Tryz.isAgg116,
    z131:=Tryz.sizeOf116,
    v131:=Tryz.zeroValue116,
    t182:=Tryz.underlying167,
    a182:=Tryz.isAgg167,
    z182:=Tryz.sizeOf167,
    v182:=Tryz.zeroValue167,
    t183:=Tryz.underlying168,
    a183:=Tryz.isAgg168,
    z183:=Tryz.sizeOf168,
    v183:=Tryz.zeroValue168,
    t218:=Tryz.underlying179,
    a218:=Tryz.isAgg179,
    z218:=Tryz.sizeOf179,
    v218:=Tryz.zeroValue179,
    t222:=Tryz.underlying183,
    a222:=Tryz.isAgg183,
    z222:=Tryz.sizeOf183,
    v222:=Tryz.zeroValue183,
    t228:=Tryz.underlying186,
    a228:=Tryz.isAgg186,
    z228:=Tryz.sizeOf186,
    v228:=Tryz.zeroValue186,
    t229:=Tryz.underlying75,
    a229:=Tryz.isAgg75,
    z229:=Tryz.sizeOf75,
    v229:=Tryz.zeroValue75 }
open Go.RowKit Go.Shelf Go.Sort Go.Proofs
theorem sortI_any (base : Nat) (v : Value) (L : List Int) (w : World) (h : Owns .i64 3 w base v L) (hn : L.length ≤ 1000000) :
    Calls Tryz.prog 81 #[v] w fun e w'=>e = .returned (.tuple #[])∧Owns .i64 3 w' base v (L.mergeSort fun x y=>decide (x≤y))∧∃ row,w.grownBy w' row∧∀ g,row=some g→base≤g:=by
  cases hL:L with
  | nil=>
    subst hL
    obtain ⟨a,c,rfl⟩:=h.shape
    have hcon:=Any.slices_Sort_int_none sortI a c w
    change Calls Tryz.prog 81 _ _ _ at hcon
    refine hcon.mono ?_
    rintro e w' ⟨rfl,rfl⟩
    exact ⟨rfl,by simpa using h,none,World.grownBy.refl _ _,fun g e=>by cases e⟩
  | cons x r=>
    rw [← hL]
    have hpos:0 < L.length:=by rw [hL];simp
    obtain ⟨hw,h2⟩:=h
    rcases h2 with ⟨h0,_⟩ | h2
    · rw [h0] at hpos;simp at hpos
    rcases h2.2 with ⟨_,h0⟩ | ⟨g,cap,cur,rfl,hg,hh,hnc,hcm,hcs,ht⟩
    · omega
    have hH:Holds (Value.int .i64) w g 0 L.toArray:=holds_of_blockI hh (by rw [Nat.mul_one] at ht;exact ht)
    have hcon:=Any.slices_Sort_int sortI g 0 cap L w hH (Array.getElem?_eq_some_iff.1 hh).1 (by omega)
    change Calls Tryz.prog 81 _ _ _ at hcon
    refine hcon.mono ?_
    rintro e w' ⟨rfl,n,os,rfl⟩
    refine ⟨rfl,⟨fun y hy=>hw y ((List.mergeSort_perm L _).mem_iff.1 hy),.inr ?_⟩,some g,grownBy_sortedI _,fun q e=>by injection e with e;omega⟩
    have hl:=(List.mergeSort_perm L fun x y=>decide (x≤y)).length_eq
    rw [hl]
    exact ownsRow_sortedI hl hg hh hnc hcm hcs
/-- Numbers without doubles, sorted, are the rising list of the same numbers. -/
theorem sort_is {ks M:List Int} (hd:ks.Nodup) (hM:M.Pairwise (fun a b=>a < b)) (hm:∀ k,k ∈ ks↔k ∈ M):(ks.mergeSort fun x y=>decide (x≤y))=M:=by
  have hp:ks.Perm M:=(List.perm_ext_iff_of_nodup hd (hM.imp (fun h=>by omega))).2 hm
  refine List.Perm.eq_of_pairwise (le:=fun a b=>a≤b) (fun a b _ _ x y=>by omega) ?_ (hM.imp (fun h=>by omega)) ((List.mergeSort_perm ks _).trans hp)
  have:=List.pairwise_mergeSort (le:=fun x y:Int=>decide (x≤y)) (fun a b c x y=>by simp at *;omega) (fun a b=>by simp;omega) ks
  exact this.imp (fun h=>by simpa using h)

section
variable {No:Nat→Prop} {h:McH} {st:Mc} {w:World}
theorem filter_cons_perm {α:Type} (q:α→Bool) {D L X:List α} {p:α} (h:D.Perm ((p :: L) ++ X.filter q)) (hq:q p=true):D.Perm (L ++ (p :: X).filter q):=by
  rw [List.filter_cons,if_pos hq]
  exact h.trans (List.perm_middle.symm)
theorem below_grownF {w w':World} (b:Below w.heap.size w w'):w.grownBy w' none:=⟨b.os,b.tape,b.output,b.size,fun k hk _=>b.block k hk⟩
theorem df_keys {κ ν:Type} [DecidableEq κ] {D L K:List (κ × ν)} {s:κ} {v:ν} (hn:(D.map Prod.fst).Nodup) (h:D.Perm (((s,v) :: L) ++ K)):(∀ q ∈ L,q.1 ≠ s)∧(kdel D s).Perm (L ++ K):=by
  have h1:((((s,v) :: L) ++ K).map Prod.fst).Nodup:=((h.map Prod.fst).nodup_iff).1 hn
  rw [List.cons_append,List.map_cons,List.nodup_cons] at h1
  have h2:∀ q ∈ L ++ K,q.1 ≠ s:=fun q hq e=>h1.1 (by rw [← e];exact List.mem_map.2 ⟨q,hq,rfl⟩)
  refine ⟨fun q hq=>h2 q (List.mem_append_left _ hq),?_⟩
  have h3:=h.filter (fun p=>!decide (p.1=s))
  have h4:(L ++ K).filter (fun p=>!decide (p.1=s))=L ++ K:=List.filter_eq_self.2 (fun q hq=>by simpa using h2 q hq)
  rw [List.cons_append,List.filter_cons,if_neg (by simp),h4] at h3
  exact h3
/-- A map's walk with some entries struck. -/
structure DfR (pd:(Int × Int)→Bool) (w:World) (b:Nat) (E:List ((Int × Int) × Value)) (wr:World) (L X D:List ((Int × Int) × Value)):Prop where
  it:IterG MP wr b w.heap.size D L
  all:E.Perm (L ++ X)
  now:D.Perm (L ++ X.filter fun p=>!pd p.1)
  tn:Tn (fun k=>k=b) w wr
set_option maxHeartbeats 2000000 in
theorem delfunc_any (pd : (Int × Int) → Bool) (b x1 x2 : Nat) (E : List ((Int × Int) × Value)) (w : World) (hm : MapG MP w b E)
    (hdel:∀ (W:World) (p:Int × Int) (v:Value),Tn (fun k=>k=b) w W→Calls Tryz.prog 94 #[.agg #[.int .i64 p.1,.int .i64 p.2],v,.pointer (some ⟨x1,0,none⟩),.pointer (some ⟨x2,0,none⟩)] W fun e w'=>e = .returned (.bool (pd p))∧Below W.heap.size W w') :
    Calls Tryz.prog 93 #[.map (some b),.func (.func 94) #[] #[.pointer (some ⟨x1,0,none⟩),.pointer (some ⟨x2,0,none⟩)]] w fun e w'=>e = .returned (.tuple #[])∧MapG MP w' b (E.filter fun p=>!pd p.1)∧Tn (fun k=>k=b) w w':=by
  obtain ⟨w0,hrun,hit,hg0,hs0⟩:=mg_range hm
  have hlt:=hm.lt
  have ST:Hid (DfR pd w b E w0 E [] E):=⟨hit,by simp,by simp,(Tn.refl _ w).put (World.grownBy.but hg0 (some b)) (.inl rfl)⟩
  have HDEL:=Lib.hid hdel;have HLT:=Lib.hid hlt;clear hit hg0 hs0 hm hdel
  go_enter Tryz.func93,Tryz.ntmps93
  go_wp2_with fail
  go_loopw [8] (fun _ wr=>∃ L X D,Hid (DfR pd w b E wr L X D)) (fun _ wr=>wr.rangeLeft b w.heap.size)
  case atStart=>exact ⟨_,_,_,ST⟩
  case round=>
    clear ST hrun
    obtain ⟨L,X,D,HR⟩:=hrel
    rcases ig_next HR.out.it 0 with ⟨hl,hnx⟩ | ⟨p,L',wn,hpL,hpD,hnx,hit1,hg1,hs1,hen⟩
    · subst hl
      have hfin:MapG MP wr b (E.filter fun p=>!pd p.1)∧Tn (fun k=>k=b) w wr:=by
        have h1:=HR.out.now
        have h2:=HR.out.all
        simp only [List.nil_append] at h1 h2
        exact ⟨HR.out.it.map.perm (h1.trans (h2.symm.filter _)),HR.out.tn⟩
      have HF:=Lib.hid hfin;clear hfin
      go_wp2
      go_end0
      exact ⟨rfl,HF.out.1,HF.out.2⟩
    · obtain ⟨⟨p1,p2⟩,v⟩:=p
      replace hnx:(Instr.next (.pointer (some ⟨w.heap.size,0,none⟩)) false 0).run Tryz.prog wr = .ok (.tuple #[.bool true,.agg #[.int .i64 p1,.int .i64 p2],v]) wn:=hnx
      replace hen:(Instr.entry (.pointer (some ⟨w.heap.size,0,none⟩))).run Tryz.prog wn = .ok (.tuple #[.agg #[.int .i64 p1,.int .i64 p2],v]) wn:=hen
      have hrlt:=HR.out.it.lt
      have hblt:=HR.out.it.map.lt
      have hrne:=HR.out.it.ne
      have hw:=HR.out.tn.size
      have hrb:w.heap.size < wn.heap.size:=by omega
      have hlen:L'.length < L.length:=by have:=hpL.length_eq;simp at this;omega
      have hok:=HR.out.it.map.ok _ hpD
      have hnd:=HR.out.it.map.nodup
      have hDp:D.Perm ((((p1,p2),v) :: L') ++ X.filter fun p=>!pd p.1):=HR.out.now.trans (hpL.append_right _)
      have hEp:E.Perm (L' ++ (((p1,p2),v) :: X)):=HR.out.all.trans ((hpL.append_right _).trans (List.perm_middle.symm))
      have htn:Tn (fun k=>k=b) w wn:=HR.out.tn.put hg1 (.inr (Nat.le_refl _))
      have hba:Below wn.heap.size wn (wn.alloc (.cells #[.int .i64 p1,.int .i64 p2] 107)):=(Below.refl _ _).alloc (Nat.le_refl _) _
      have hrow:=heap_alloc_new wn (.cells #[.int .i64 p1,.int .i64 p2] 107)
      have hit2:IterG MP (wn.alloc (.cells #[.int .i64 p1,.int .i64 p2] 107)) b w.heap.size D L':=hit1.grown (World.grownBy_alloc wn _ none) (by simp) (by simp)
      have HIT:=Lib.hid hit2;have HROW:=Lib.hid hrow
      have HTN:=Lib.hid (htn.call hba)
      have HDP:=Lib.hid hDp;have HEP:=Lib.hid hEp;have HOK:=Lib.hid hok;have HND:=Lib.hid hnd;have HLN:=Lib.hid hlen;have HSZ:=Lib.hid hrb;have HMS:=Lib.hid HR.out.it.left
      have hcall:=HDEL.out (wn.alloc (.cells #[.int .i64 p1,.int .i64 p2] 107)) (p1,p2) v HTN.out
      have HC:=Lib.hid hcall;clear hit1 hit2 hg1 hs1 hrlt hblt hrow htn hba hDp hEp hok hnd hlen hrb hpL hpD hcall hw;go_wp2_with fail
      refine HC.out.mono ?_
      rintro e w2 ⟨rfl,hb2⟩
      have hrow2:=row_keep HROW.out hb2
      have hcell:w2.cell? ⟨wn.heap.size,0,none⟩=some (.int .i64 p1)∧w2.cell? ⟨wn.heap.size,1,none⟩=some (.int .i64 p2):=⟨cell_of_row w2 _ 0 _ _ _ hrow2,cell_of_row w2 _ 1 _ _ _ hrow2⟩
      obtain ⟨hc0,hc1⟩:=hcell
      have hit3:IterG MP w2 b w.heap.size D L':=HIT.out.grown (below_grownF hb2) (by simp) (by simp)
      have HTN2:=Lib.hid (HTN.out.call hb2)
      have HK:=Lib.hid (df_keys HND.out HDP.out)
      cases hpd:pd (p1,p2) with
      | false=>
        have hR2:DfR pd w b E w2 L' (((p1,p2),v) :: X) D:=⟨hit3,HEP.out,filter_cons_perm _ HDP.out (by simp [hpd]),HTN2.out⟩
        have HR2:=Lib.hid hR2;clear hR2 hit3 hrow2 hb2
        go_wp2
        go_roundw
        case rel=>exact ⟨_,_,_,HR2⟩
        case measure=>rw [HR2.out.it.left,HMS.out];exact HLN.out
      | true=>
        obtain ⟨w9,hrun9,hit9,hg9,hs9⟩:=ig_del hit3 (p1,p2) HOK.out HK.out.1 107 0
        replace hrun9:(Builtin.delete_ #[99,107] 0 #[.map (some b),.agg #[.int .i64 p1,.int .i64 p2]]).run Tryz.prog w2 = .ok (.tuple #[]) w9:=hrun9
        have hR2:DfR pd w b E w9 L' (((p1,p2),v) :: X) (kdel D (p1,p2)):=⟨hit9,HEP.out,by rw [List.filter_cons,if_neg (by simp [hpd])];exact HK.out.2,HTN2.out.put hg9 (.inl rfl)⟩
        have HR2:=Lib.hid hR2;clear hR2 hit3 hrow2 hb2 hit9 hg9 hs9
        go_wp2
        go_roundw
        case rel=>exact ⟨_,_,_,HR2⟩
        case measure=>rw [HR2.out.it.left,HMS.out];exact HLN.out
end
end Go.Proofs.YtoepnbfifjgpfaaGreat
