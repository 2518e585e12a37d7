/- region: All. -/
import Derived.Test.YtoepnbfifjgpfaaGreatMu5
namespace Go.Proofs.YtoepnbfifjgpfaaGreat
set_option maxRecDepth 100000
open Go.RowKit Go.Shelf Go.Proofs
attribute [local go_sem] Oper.semAt_some
/-- Where the pieces have come to, each in some way; none: one is wanting. -/
def passG (ok:Int→Bool):Int→List Rg→Option Int
 | at_,[]=>some at_
 | at_,r :: l=>if r.lo ≠ at_∨ok r.p=false then none else passG ok r.hi l
theorem passG_append (ok:Int→Bool):∀ (l m:List Rg) (at_:Int),passG ok at_ (l ++ m)=(passG ok at_ l).bind fun x=>passG ok x m
 | [],m,at_=>rfl
 | r :: l,m,at_=>by
  rw [List.cons_append,passG,passG]
  split
  ·rfl
  ·exact passG_append ok l m r.hi
theorem allGo_pass (ok:Int→Bool) (hi:Int):∀ (l:List Rg) (at_:Int),allGo ok hi at_ l=match passG ok at_ l with | some x=>decide (x=hi) | none=>false
 | [],at_=>rfl
 | r :: l,at_=>by
  rw [allGo,passG]
  split
  ·rfl
  ·exact allGo_pass ok hi l r.hi
theorem boxed_below {W W':World} {B n₀:Nat} {t:TypeId} {v:Value} (h:Boxed W B t v) (hb:Below n₀ W W') (hn:B < n₀):Boxed W' B t v:=(hb.block B hn).trans h
theorem row_own {W W':World} {B:Nat} {cs:Array Value} {t:TypeId} {row:Option Nat} (h:W.heap[B]?=some (.cells cs t (0,0))) (hg:W.grownBy W' row) (hr:∀ r,row=some r→∃ o:Obj,W.heap[r]?=some o∧o.isCells=false):W'.heap[B]?=some (.cells cs t (0,0)):=by
 refine (hg.block B (Array.getElem?_eq_some_iff.1 h).1 (fun e=>?_)).trans h
 obtain ⟨o,ho,hc⟩:=hr B e.symm
 rw [h] at ho
 injection ho with ho
 subst ho
 cases hc
/-- What All's own cells hold between two rounds. -/
structure AllI (ways lo:Int) (w W0:World) (pre:List Rg) (W:World):Prop where
 at_:∃ x,passG (fun p=>decide (bits .and .i64 p ways=ways)) lo pre=some x∧Boxed W (w.heap.size+1+1) 3 (.int .i64 x)
 ways:Boxed W w.heap.size 3 (.int .i64 ways)
 res:Boxed W (w.heap.size+1) 4 (.bool false)
 size:W0.heap.size≤W.heap.size
structure AllX (ways lo:Int) (w:World) (c:Code) (pre:List Rg) (W:World):Prop where
 ret:c = .ret
 no:passG (fun p=>decide (bits .and .i64 p ways=ways)) lo pre=none
 res:Boxed W (w.heap.size+1) 4 (.bool false)
theorem allI_own (ways lo:Int) (w W0:World):Own (fun pre W=>AllI ways lo w W0 pre W):=fun _ _ _ _ hs hg hr=>by
 obtain ⟨⟨x,h1,h2⟩,h3,h4,h5⟩:=hs
 exact ⟨⟨x,h1,row_own h2 hg hr⟩,row_own h3 hg hr,row_own h4 hg hr,Nat.le_trans h5 hg.size⟩
theorem allX_own (ways lo:Int) (w:World) (c:Code):Own (fun pre W=>AllX ways lo w c pre W):=fun _ _ _ _ hs hg hr=>⟨hs.ret,hs.no,row_own hs.res hg hr⟩
def okW (ways p:Int):Bool:=decide (bits .and .i64 p ways=ways)
theorem all_no (a:Option Addr) (n c:Nat) (lo hi ways:Int) (w:World) (h:hi≤lo) :
  Calls Tryz.prog 89 #[.slice a n c,.int .i64 lo,.int .i64 hi,.int .i64 ways] w fun e w'=>e = .returned (.bool true)∧Below w.heap.size w w':=by
 go_enter Tryz.func89,Tryz.ntmps89
 go_wp2
 have hr:((w.alloc (.cells #[.int .i64 ways] 3)).alloc (.cells #[.bool true] 4)).cell? ⟨w.heap.size+1,0,none⟩=some (.bool true):=by
  have:=(Boxed.new (w.alloc (.cells #[.int .i64 ways] 3)) 4 (.bool true)).cell
  rw [World.size_alloc] at this
  exact this
 refine bodyPost_ret (v:=.bool true) (by simp [results,Tryz.results89,go_sem,hr]) rfl ?_
 exact ⟨rfl,below_a2 w _ _⟩
set_option linter.unusedSimpArgs false in
set_option linter.unusedVariables false in
set_option maxHeartbeats 2000000 in
theorem all_in (a:Option Addr) (n c:Nat) (L:List Rg) (lo hi ways:Int) (w:World) (h:RdS Rg.cells 3 w a n c L) (hn:n≤1000) (h0:lo < hi) :
  Calls Tryz.prog 89 #[.slice a n c,.int .i64 lo,.int .i64 hi,.int .i64 ways] w fun e w'=>e = .returned (.bool (allL L lo hi (okW ways)))∧Below w.heap.size w w':=by
 have H:=Lib.hid h
 have hl:=h.len
 clear h
 refine (callsIn_wide (n:=6)).1 ?_
 refine callsIn_of_wp_marks Tryz.func89 rfl trivial ?_ rfl
 simp only [Tryz.ntmps89,List.size_toArray,List.length_cons,List.length_nil,Nat.reduceAdd,Nat.reduceSub,Array.replicate_succ,Array.replicate_zero,List.push_toArray,List.append_toArray,List.nil_append,List.cons_append]
 have hba:=below_a3 w (.cells #[.int .i64 ways] 3) (.cells #[.bool false] 4) (.cells #[.int .i64 lo] 3)
 have b0:=((Boxed.new w 3 (.int .i64 ways)).alloc (.cells #[.bool false] 4)).alloc (.cells #[.int .i64 lo] 3)
 have b1:=(Boxed.new (w.alloc (.cells #[.int .i64 ways] 3)) 4 (.bool false)).alloc (.cells #[.int .i64 lo] 3)
 have b2:=Boxed.new ((w.alloc (.cells #[.int .i64 ways] 3)).alloc (.cells #[.bool false] 4)) 3 (.int .i64 lo)
 simp only [World.size_alloc] at b1 b2
 have d0:decide (hi≤lo)=false:=decide_eq_false (by omega)
 have hfn:Fence.wide.fn 100:=trivial
 gi_wp2_with (gi_at_call 100;refine (callsIn_wide.2 (pieces_any a n c L lo hi _ (H.out.below hba) (by omega))).mono ?_;rintro e W0 ⟨v,rfl,hP,hO,hb0⟩)
 have hbW:=Below.call hba hb0
 have hsz0:w.heap.size+1+1+1≤W0.heap.size:=by have:=hb0.size;simp at this;omega
 have p0:=boxed_below b0 hb0 (by simp;omega)
 have p1:=boxed_below b1 hb0 (by simp)
 have p2:=boxed_below b2 hb0 (by simp)
 have hlt:=hP.hi.lt
 simp only [World.size_alloc] at hP hO hlt ⊢
 have HL:=Lib.hid hl;clear b0 b1 b2 hb0 hba H hl
 refine wpIn_rangeFunc_ownH rfl (by decide) (gf:=115) (lb:=#[.pointer (some ⟨w.heap.size+1+1+1,0,none⟩),.pointer (some ⟨w.heap.size+1+1+1+1,0,none⟩),.pointer (some ⟨w.heap.size+1+1+1+2,0,none⟩)]) rfl trivial (enters_of Tryz.func115 (by kernel_rfl) rfl)
  (pieces_stops Fence.wide (6 - 1) trivial rfl (by decide) (w.heap.size+1+1+1) W0.heap.size v L lo hi W0 (by rw [HL.out];omega) hP hO hlt (Nat.le_refl _) (fun g hg=>(hO.at_base g hg).2)) Amid.trans (amid_b (Nat.le_refl _)) (Below.refl _ _) (fun _=>rfl)
  (fun pre W=>AllI ways lo w W0 pre W∧Below w.heap.size w W)
  (fun c pre W=>AllX ways lo w c pre W∧Below w.heap.size w W)
  (OwnFrom.and (Own.from (allI_own ways lo w W0) _) (ownFrom_below (Nat.le_refl _) (by omega)))
  (fun c=>OwnFrom.and (Own.from (allX_own ways lo w c) _) (ownFrom_below (Nat.le_refl _) (by omega)))
  ⟨⟨⟨lo,rfl,p2⟩,p0,p1,Nat.le_refl _⟩,hbW⟩
  (fun x a' W=>∃ Bx,W0.heap.size≤Bx∧W.heap[Bx]?=some (.cells #[.int .i64 x.lo,.int .i64 x.hi,.int .i64 x.p] 110 (0,0))∧a'={ tmps:=#[.slice a n c,.int .i64 lo,.int .i64 hi,.int .i64 ways,undef,undef,undef,.pointer (some ⟨w.heap.size,0,none⟩),.pointer (some ⟨w.heap.size+1,0,none⟩),.pointer (some ⟨w.heap.size+1+1,0,none⟩),.pointer (some ⟨Bx,0,none⟩),.int .i64 hi,.int .i64 lo,.bool false,.int .i64 lo,.slice a n c,.int .i64 lo,.int .i64 hi,.func (.func 115) #[] #[.pointer (some ⟨w.heap.size+1+1+1,0,none⟩),.pointer (some ⟨w.heap.size+1+1+1+1,0,none⟩),.pointer (some ⟨w.heap.size+1+1+1+2,0,none⟩)],x.val,undef,undef,undef,undef,undef,undef,undef,undef,undef,undef,undef,undef,undef,undef,undef,undef,undef],defers:=[] })
  (fun x a' _ X Y row hs hg hr=>by obtain ⟨Bx,h1,h2,h3⟩:=hs;exact ⟨Bx,h1,row_own h2 hg (fun r e=>(hr r e).2),h3⟩)
  ?assign ?body ?done ?stop
 case assign=>
  rintro l pre x W K ⟨hI,hB⟩ hK
  obtain ⟨xl,xh,xp⟩:=x
  dsimp only [Rg.val] at hK ⊢
  gi_wp2
  exact hK _ _ ((KeepsOthers.alloc _ _).from _) (Amid.below (below_a _ _) hI.size) ⟨allI_own ways lo w W0 _ _ _ none hI (World.grownBy_alloc _ _ none) (fun r e=>by cases e),hB.alloc hB.size _⟩ ⟨W.heap.size,hI.size,heap_alloc_new _ _,rfl⟩
 case body=>
  rintro l pre x a' W hl ⟨r,hr⟩ ⟨hI,hB⟩ ⟨Bx,hBx,hX,rfl⟩ hlt2
  obtain ⟨⟨y,hy,q2⟩,q0,q1,hsz⟩:=hI
  obtain ⟨xl,xh,xp⟩:=x
  dsimp only [Rg.val] at hX ⊢
  obtain ⟨x0,x1,x2⟩:=cells3 hX
  have c0:=q0.cell
  have c1:=q1.cell
  have c2:=q2.cell
  have f1:=q1.frozen
  have f2:=q2.frozen
  by_cases hxy:xl=y
  ·subst hxy
   have dx:(xl != xl)=false:=by simp
   obtain ⟨bw,hbw⟩:∃ bw,bits .and .i64 xp ways=bw:=⟨_,rfl⟩
   by_cases hok:bw=ways
   ·have dw:(bw != ways)=false:=by simpa using hok
    have HPS:Hid (passG (fun p=>decide (bits .and .i64 p ways=ways)) lo (pre ++ [⟨xl,xh,xp⟩])=some xh):=by
     show _=_;rw [passG_append,hy]
     show (if xl ≠ xl∨decide (bits .and .i64 xp ways=ways)=false then none else some xh)=_
     rw [if_neg];rw [hbw,decide_eq_true hok]
     simp
    clear hok hy
    gi_wp2
    exact ⟨(KeepsOthers.setCell _ _ _).from _,(Amid.refl _ _ W).setCell ⟨w.heap.size+1+1,0,none⟩ (by simp) _,⟨⟨xh,HPS.out,q2.set _⟩,q0.other (by omega) _,q1.other (by omega) _,by simpa using hsz⟩,hB.setCell (p:=⟨w.heap.size+1+1,0,none⟩) (by simp;omega) _⟩
   ·have dw:(bw != ways)=true:=by simpa using hok
    have HPS:Hid (passG (fun p=>decide (bits .and .i64 p ways=ways)) lo (pre ++ [⟨xl,xh,xp⟩])=none):=by
     show _=_;rw [passG_append,hy]
     show (if xl ≠ xl∨decide (bits .and .i64 xp ways=ways)=false then none else some xh)=_
     rw [if_pos];rw [hbw,decide_eq_false hok]
     exact .inr rfl
    clear hok hy
    gi_wp2
    exact ⟨(KeepsOthers.setCell _ _ _).from _,⟨rfl,HPS.out,q1.set _⟩,hB.setCell (p:=⟨w.heap.size+1,0,none⟩) (by simp) _⟩
  ·have dx:(xl != y)=true:=by simpa using hxy
   have HPS:Hid (passG (fun p=>decide (bits .and .i64 p ways=ways)) lo (pre ++ [⟨xl,xh,xp⟩])=none):=by
    show _=_;rw [passG_append,hy]
    show (if xl ≠ y∨decide (bits .and .i64 xp ways=ways)=false then none else some xh)=_
    rw [if_pos (.inl hxy)]
   clear hxy hy
   gi_wp2
   exact ⟨(KeepsOthers.setCell _ _ _).from _,⟨rfl,HPS.out,q1.set _⟩,hB.setCell (p:=⟨w.heap.size+1,0,none⟩) (by simp) _⟩
 case done=>
  rintro D ys W hD rfl ⟨⟨⟨y,hy,q2⟩,q0,q1,hsz⟩,hB⟩ hK
  have c1:=q1.cell
  have c2:=q2.cell
  have f1:=q1.frozen
  have HRES:Hid (allL L lo hi (okW ways)=(y == hi)):=by
   show _=_
   unfold allL
   rw [if_neg (by omega),allGo_pass]
   have e:passG (okW ways) lo (piecesL L lo hi)=some y:=hy
   rw [e,Bool.beq_eq_decide_eq]
  clear hy
  gi_wp2
  have hK':=(KeepsOthers.setCell W ⟨w.heap.size+1,0,none⟩ (.bool (y == hi))).same D _ hK rfl
  refine ⟨by simp,.inl ⟨_,_,rfl,run_takeDeferred hK',?_⟩⟩
  have hc5:=cell_kept (q1.set (.bool (y == hi))).cell (grownBy_putObj' _ D (.deferred none)) (fun r e=>by cases e;exact ⟨_,hK',rfl⟩)
  refine ⟨.bool (y == hi),?_,by rw [HRES.out],(hB.setCell (p:=⟨w.heap.size+1,0,none⟩) (by simp) _).trans (belowK_b (w:=w) (Nat.le_refl _) _ D _ _ (by omega) hK' rfl rfl)⟩
  simp [results,Tryz.f89,go_sem,hc5]
 case stop=>
  rintro D c pre W hD ⟨rest,hrest⟩ ⟨⟨rfl,hno,q1⟩,hB⟩ hK
  have HRES:Hid (allL L lo hi (okW ways)=false):=by
   show _=_
   unfold allL
   rw [if_neg (by omega),allGo_pass]
   have e:passG (okW ways) lo pre=none:=hno
   rw [← hrest,passG_append,e];rfl
  clear hno hrest
  gi_wp2
  refine ⟨by simp,.inl ⟨_,_,rfl,run_takeDeferred hK,?_⟩⟩
  have hc5:=cell_kept q1.cell (grownBy_putObj' _ D (.deferred none)) (fun r e=>by cases e;exact ⟨_,hK,rfl⟩)
  refine ⟨.bool false,?_,by rw [HRES.out],hB.trans (belowK_b (w:=w) (Nat.le_refl _) W D _ _ (by omega) hK rfl rfl)⟩
  simp [results,Tryz.f89,go_sem,hc5]
theorem all_any (a:Option Addr) (n c:Nat) (L:List Rg) (lo hi ways:Int) (w:World) (h:RdS Rg.cells 3 w a n c L) (hn:n≤1000) :
  Calls Tryz.prog 89 #[.slice a n c,.int .i64 lo,.int .i64 hi,.int .i64 ways] w fun e w'=>e = .returned (.bool (allL L lo hi (okW ways)))∧Below w.heap.size w w':=by
 by_cases h0:lo < hi
 ·exact all_in a n c L lo hi ways w h hn h0
 ·have e:allL L lo hi (okW ways)=true:=by unfold allL;rw [if_pos (by omega)]
  rw [e]
  exact all_no a n c lo hi ways w (by omega)
end Go.Proofs.YtoepnbfifjgpfaaGreat
