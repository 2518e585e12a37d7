/- The plain law of regions: rows of stretches, canonical rows, what they say page by page. No walk in sight. The plain law of regions, part two: any order of parted regions; the document's cuts and stretches. No walk in sight. -/
import Derived.WalkKit
namespace Go.Proofs.YtoepnbfifjgpfaaGreat
/-- A region: pages from lo on, below hi, and in which ways they may be used. -/
structure Rg where
 lo:Int
 hi:Int
 p:Int
theorem Rg.ext' {a b:Rg} (h1:a.lo=b.lo) (h2:a.hi=b.hi) (h3:a.p=b.p):a=b:=by
 cases a;cases b;simp_all
def Rg.has (r:Rg) (x:Int):Bool:=decide (r.lo≤x) && decide (x < r.hi)
theorem Rg.has_iff {r:Rg} {x:Int}:r.has x=true↔r.lo≤x∧x < r.hi:=by
 unfold Rg.has;simp
/-- What a row says of a page; -1: nothing. -/
def pf:List Rg→Int→Int
 | [],_=>-1
 | r :: l,x=>if r.has x=true then r.p else pf l x
theorem pf_yes {r:Rg} {l:List Rg} {x:Int} (h:r.lo≤x∧x < r.hi):pf (r :: l) x=r.p:=if_pos (Rg.has_iff.2 h)
theorem pf_no {r:Rg} {l:List Rg} {x:Int} (h:¬ (r.lo≤x∧x < r.hi)):pf (r :: l) x=pf l x:=if_neg (fun e=>h (Rg.has_iff.1 e))
/-- Rising: each is not empty, and begins where the one ahead ends, or behind it. -/
def Rising:Int→List Rg→Prop
 | _,[]=>True
 | b,r :: l=>b≤r.lo∧r.lo < r.hi∧0≤r.p∧Rising r.hi l
/-- Canonical: rising, and two that touch are not alike. -/
def Canon:Int→Int→List Rg→Prop
 | _,_,[]=>True
 | b,q,r :: l=>b≤r.lo∧r.lo < r.hi∧0≤r.p∧(r.lo=b→r.p ≠ q)∧Canon r.hi r.p l
theorem Canon.rising:∀ {l:List Rg} {b q:Int},Canon b q l→Rising b l
 | [],_,_,_=>trivial
 | _ :: _,_,_,⟨h1,h2,h3,_,h5⟩=>⟨h1,h2,h3,h5.rising⟩
theorem Rising.weak:∀ {l:List Rg} {b b':Int},Rising b l→b'≤b→Rising b' l
 | [],_,_,_,_=>trivial
 | _ :: _,_,_,⟨h1,h2,h3,h4⟩,h=>⟨by omega,h2,h3,h4⟩
theorem Canon.weak:∀ {l:List Rg} {b q b' q':Int},Canon b q l→b' < b→Canon b' q' l
 | [],_,_,_,_,_,_=>trivial
 | _ :: _,_,_,_,_,⟨h1,h2,h3,_,h5⟩,h=>⟨by omega,h2,h3,fun e=>by omega,h5⟩
theorem Rising.mem:∀ {l:List Rg} {b:Int},Rising b l→∀ r ∈ l,b≤r.lo∧r.lo < r.hi∧0≤r.p
 | [],_,_,_,h=>by cases h
 | s :: l,b,⟨h1,h2,h3,h4⟩,r,h=>by
  rcases List.mem_cons.1 h with rfl | h
  ·exact ⟨h1,h2,h3⟩
  ·have:=h4.mem r h
   exact ⟨by omega,this.2⟩
theorem pf_below:∀ {l:List Rg} {b x:Int},Rising b l→x < b→pf l x = -1
 | [],_,_,_,_=>rfl
 | r :: l,b,x,⟨h1,h2,_,h4⟩,h=>by rw [pf_no (by omega),pf_below h4 (by omega)]
theorem pf_none:∀ {l:List Rg} {x:Int},(∀ r ∈ l,¬ (r.lo≤x∧x < r.hi))→pf l x = -1
 | [],_,_=>rfl
 | r :: l,x,h=>by rw [pf_no (h r (List.mem_cons_self ..)),pf_none (fun s hs=>h s (List.mem_cons_of_mem _ hs))]
theorem pf_some:∀ {l:List Rg} {x:Int},pf l x ≠ -1→∃ r ∈ l,(r.lo≤x∧x < r.hi)∧pf l x=r.p
 | [],_,h=>absurd rfl h
 | r :: l,x,h=>by
  by_cases hx:r.lo≤x∧x < r.hi
  ·exact ⟨r,List.mem_cons_self ..,hx,pf_yes hx⟩
  ·rw [pf_no hx] at h ⊢
   obtain ⟨s,hs,h1,h2⟩:=pf_some h
   exact ⟨s,List.mem_cons_of_mem _ hs,h1,h2⟩
theorem canon_at:∀ {l:List Rg} {b q:Int},Canon b q l→0≤q→pf l b ≠ q
 | [],_,_,_,hq=>by show (-1:Int) ≠ _;omega
 | r :: l,b,q,⟨h1,h2,h3,h4,h5⟩,hq=>by
  by_cases h:r.lo=b
  ·rw [pf_yes (by omega)];exact h4 h
  ·rw [pf_no (by omega),pf_below h5.rising (by omega)];omega
/-- A canonical row is told by what it says page by page. -/
theorem canon_eq:∀ {l m:List Rg} {b q:Int},Canon b q l→Canon b q m→(∀ x,b≤x→pf l x=pf m x)→l=m
 | [],[],_,_,_,_,_=>rfl
 | [],s :: m,b,q,_,⟨h1,h2,h3,_,_⟩,h=>by
  have:=h s.lo h1
  rw [pf_yes (l:=m) (by omega)] at this
  have e:pf [] s.lo = -1:=rfl
  omega
 | r :: l,[],b,q,⟨h1,h2,h3,_,_⟩,_,h=>by
  have:=h r.lo h1
  rw [pf_yes (l:=l) (by omega)] at this
  have e:pf [] r.lo = -1:=rfl
  omega
 | r :: l,s :: m,b,q,⟨a1,a2,a3,_,a5⟩,⟨b1,b2,b3,_,b5⟩,h=>by
  have hlo:r.lo=s.lo:=by
   by_cases hlt:r.lo < s.lo
   ·have:=h r.lo a1
    rw [pf_yes (l:=l) (by omega),pf_no (l:=m) (by omega),pf_below b5.rising (by omega)] at this
    omega
   ·by_cases hgt:s.lo < r.lo
    ·have:=h s.lo b1
     rw [pf_yes (r:=s) (l:=m) (by omega),pf_no (l:=l) (by omega),pf_below a5.rising (by omega)] at this
     omega
    ·omega
  have hp:r.p=s.p:=by
   have:=h r.lo a1
   rwa [pf_yes (l:=l) (by omega),pf_yes (r:=s) (l:=m) (by omega)] at this
  have hhi:r.hi=s.hi:=by
   by_cases hlt:r.hi < s.hi
   ·have:=h r.hi (by omega)
    rw [pf_no (l:=l) (by omega),pf_yes (r:=s) (l:=m) (by omega),← hp] at this
    exact absurd this (canon_at a5 a3)
   ·by_cases hgt:s.hi < r.hi
    ·have:=h s.hi (by omega)
     rw [pf_no (r:=s) (l:=m) (by omega),pf_yes (l:=l) (by omega),hp] at this
     exact absurd this.symm (canon_at b5 b3)
    ·omega
  obtain rfl:r=s:=Rg.ext' hlo hhi hp
  rw [canon_eq a5 b5 (fun x hx=>by
   have:=h x (by omega)
   rwa [pf_no (l:=l) (by omega),pf_no (l:=m) (by omega)] at this)]
/-- One is laid behind a row: it is joined to the last one if it touches it and is alike. -/
def joinStep (out:List Rg) (r:Rg):List Rg:=
 match out.getLast? with
 | some z=>if z.hi=r.lo∧z.p=r.p then out.dropLast ++ [⟨z.lo,r.hi,z.p⟩] else out ++ [r]
 | none=>out ++ [r]
def joinR:Rg→List Rg→List Rg
 | z,[]=>[z]
 | z,r :: l=>if z.hi=r.lo∧z.p=r.p then joinR ⟨z.lo,r.hi,z.p⟩ l else z :: joinR r l
theorem fold_join:∀ (l:List Rg) (out:List Rg) (z:Rg),l.foldl joinStep (out ++ [z])=out ++ joinR z l
 | [],out,z=>rfl
 | r :: l,out,z=>by
  rw [List.foldl_cons,joinR]
  by_cases h:z.hi=r.lo∧z.p=r.p
  ·rw [if_pos h]
   have e:joinStep (out ++ [z]) r=out ++ [⟨z.lo,r.hi,z.p⟩]:=by
    unfold joinStep
    rw [List.getLast?_concat]
    simp only [if_pos h,List.dropLast_concat]
   rw [e]
   exact fold_join l out ⟨z.lo,r.hi,z.p⟩
  ·rw [if_neg h]
   have e:joinStep (out ++ [z]) r=(out ++ [z]) ++ [r]:=by
    unfold joinStep
    rw [List.getLast?_concat]
    simp only [if_neg h]
   rw [e,fold_join l (out ++ [z]) r,List.append_assoc];rfl
/-- A rising row, made canonical. -/
def joinedS (l:List Rg):List Rg:=l.foldl joinStep []
theorem joinedS_cons (z:Rg) (l:List Rg):joinedS (z :: l)=joinR z l:=by
 unfold joinedS
 rw [List.foldl_cons]
 exact fold_join l [] z
theorem joinR_canon:∀ {l:List Rg} {z:Rg} {b q:Int},Rising z.hi l→b≤z.lo→z.lo < z.hi→0≤z.p→(z.lo=b→z.p ≠ q)→Canon b q (joinR z l)
 | [],z,b,q,_,h1,h2,h3,h4=>⟨h1,h2,h3,h4,trivial⟩
 | r :: l,z,b,q,⟨r1,r2,r3,r4⟩,h1,h2,h3,h4=>by
  rw [joinR]
  split
  ·rename_i h
   exact joinR_canon (z:=⟨z.lo,r.hi,z.p⟩) r4 h1 (show z.lo < r.hi by omega) h3 h4
  ·rename_i h
   exact ⟨h1,h2,h3,h4,joinR_canon r4 r1 r2 r3 (fun e e2=>h ⟨e.symm,e2.symm⟩)⟩
theorem joinR_pf:∀ {l:List Rg} {z:Rg} (x:Int),Rising z.hi l→z.lo < z.hi→pf (joinR z l) x=pf (z :: l) x
 | [],z,x,_,_=>rfl
 | r :: l,z,x,⟨r1,r2,r3,r4⟩,h2=>by
  rw [joinR]
  split
  ·rename_i h
   rw [joinR_pf (z:=⟨z.lo,r.hi,z.p⟩) x r4 (show z.lo < r.hi by omega)]
   by_cases hx:z.lo≤x∧x < r.hi
   ·rw [pf_yes (r:=⟨z.lo,r.hi,z.p⟩) hx]
    by_cases hz:z.lo≤x∧x < z.hi
    ·rw [pf_yes hz]
    ·rw [pf_no hz,pf_yes (r:=r) (by omega)];exact h.2
   ·rw [pf_no (r:=⟨z.lo,r.hi,z.p⟩) hx,pf_no (r:=z) (by omega),pf_no (r:=r) (by omega)]
  ·by_cases hz:z.lo≤x∧x < z.hi
   ·rw [pf_yes hz,pf_yes hz]
   ·rw [pf_no hz,pf_no hz,joinR_pf x r4 r2]
theorem joinedS_canon {l:List Rg} {b:Int} (h:Rising b l):Canon b (-1) (joinedS l):=by
 cases l with
 | nil=>exact trivial
 | cons z l=>
  obtain ⟨h1,h2,h3,h4⟩:=h
  rw [joinedS_cons]
  exact joinR_canon h4 h1 h2 h3 (fun _=>by omega)
theorem joinedS_pf {l:List Rg} {b:Int} (h:Rising b l) (x:Int):pf (joinedS l) x=pf l x:=by
 cases l with
 | nil=>rfl
 | cons z l=>
  obtain ⟨h1,h2,h3,h4⟩:=h
  rw [joinedS_cons]
  exact joinR_pf x h4 h2
/-- A row without the pages from lo on, below hi. -/
def cutOne (lo hi:Int) (r:Rg):List Rg:=
 (if r.lo < min r.hi lo then [⟨r.lo,min r.hi lo,r.p⟩] else []) ++ (if max r.lo hi < r.hi then [⟨max r.lo hi,r.hi,r.p⟩] else [])
def cutL (l:List Rg) (lo hi:Int):List Rg:=if hi≤lo then l else l.flatMap (cutOne lo hi)
theorem cutL_cons {r:Rg} {l:List Rg} {lo hi:Int} (h:lo < hi):cutL (r :: l) lo hi=cutOne lo hi r ++ cutL l lo hi:=by
 unfold cutL
 rw [if_neg (by omega),if_neg (by omega),List.flatMap_cons]
theorem cutL_nil {lo hi:Int}:cutL [] lo hi=[]:=by unfold cutL;split <;> rfl
theorem cutOne_mem {lo hi:Int} {r s:Rg} (h:s ∈ cutOne lo hi r):r.lo≤s.lo∧s.hi≤r.hi∧s.lo < s.hi∧s.p=r.p∧(s.hi≤lo∨hi≤s.lo):=by
 unfold cutOne at h
 rcases List.mem_append.1 h with h | h
 ·split at h
  ·rename_i hh
   obtain rfl:=List.mem_singleton.1 h
   exact ⟨Int.le_refl _,by show min _ _≤_;omega,hh,rfl,.inl (by show min _ _≤_;omega)⟩
  ·cases h
 ·split at h
  ·rename_i hh
   obtain rfl:=List.mem_singleton.1 h
   exact ⟨by show _≤max _ _;omega,Int.le_refl _,hh,rfl,.inr (by show _≤max _ _;omega)⟩
  ·cases h
theorem cutL_mem {lo hi:Int} {s:Rg} {l:List Rg} (h0:lo < hi) (h:s ∈ cutL l lo hi):∃ r ∈ l,r.lo≤s.lo∧s.hi≤r.hi∧s.lo < s.hi∧s.p=r.p∧(s.hi≤lo∨hi≤s.lo):=by
 unfold cutL at h
 rw [if_neg (by omega)] at h
 obtain ⟨r,hr,hs⟩:=List.mem_flatMap.1 h
 exact ⟨r,hr,cutOne_mem hs⟩
theorem pf_cutOne {lo hi x:Int} {r:Rg} {m:List Rg} (h:lo < hi):pf (cutOne lo hi r ++ m) x=if (r.lo≤x∧x < r.hi)∧¬ (lo≤x∧x < hi) then r.p else pf m x:=by
 unfold cutOne
 by_cases h1:r.lo < min r.hi lo
 ·rw [if_pos h1]
  by_cases h2:max r.lo hi < r.hi
  ·rw [if_pos h2]
   show pf (⟨r.lo,min r.hi lo,r.p⟩ :: ⟨max r.lo hi,r.hi,r.p⟩ :: m) x=_
   by_cases hx:(r.lo≤x∧x < r.hi)∧¬ (lo≤x∧x < hi)
   ·rw [if_pos hx]
    by_cases hx2:x < min r.hi lo
    ·rw [pf_yes (show r.lo≤x∧x < min r.hi lo by omega)]
    ·rw [pf_no (show ¬ (r.lo≤x∧x < min r.hi lo) by omega),pf_yes (show max r.lo hi≤x∧x < r.hi by omega)]
   ·rw [if_neg hx,pf_no (show ¬ (r.lo≤x∧x < min r.hi lo) by omega),pf_no (show ¬ (max r.lo hi≤x∧x < r.hi) by omega)]
  ·rw [if_neg h2]
   show pf (⟨r.lo,min r.hi lo,r.p⟩ :: m) x=_
   by_cases hx:(r.lo≤x∧x < r.hi)∧¬ (lo≤x∧x < hi)
   ·rw [if_pos hx,pf_yes (show r.lo≤x∧x < min r.hi lo by omega)]
   ·rw [if_neg hx,pf_no (show ¬ (r.lo≤x∧x < min r.hi lo) by omega)]
 ·rw [if_neg h1]
  by_cases h2:max r.lo hi < r.hi
  ·rw [if_pos h2]
   show pf (⟨max r.lo hi,r.hi,r.p⟩ :: m) x=_
   by_cases hx:(r.lo≤x∧x < r.hi)∧¬ (lo≤x∧x < hi)
   ·rw [if_pos hx,pf_yes (show max r.lo hi≤x∧x < r.hi by omega)]
   ·rw [if_neg hx,pf_no (show ¬ (max r.lo hi≤x∧x < r.hi) by omega)]
  ·rw [if_neg h2]
   show pf m x=_
   rw [if_neg (by omega)]
theorem pf_cutL:∀ {l:List Rg} {lo hi x:Int},lo < hi→pf (cutL l lo hi) x=if lo≤x∧x < hi then -1 else pf l x
 | [],lo,hi,x,h=>by rw [cutL_nil];split <;> rfl
 | r :: l,lo,hi,x,h=>by
  rw [cutL_cons h,pf_cutOne h,pf_cutL h]
  by_cases hx:lo≤x∧x < hi
  ·rw [if_neg (by omega),if_pos hx,if_pos hx]
  ·by_cases hr:r.lo≤x∧x < r.hi
   ·rw [if_pos (by omega),if_neg hx,pf_yes hr]
   ·rw [if_neg (by omega),if_neg hx,if_neg hx,pf_no hr]
theorem cutL_rising:∀ {l:List Rg} {b lo hi:Int},Rising b l→lo < hi→Rising b (cutL l lo hi)
 | [],b,lo,hi,_,_=>by rw [cutL_nil];exact trivial
 | r :: l,b,lo,hi,⟨h1,h2,h3,h4⟩,h=>by
  rw [cutL_cons h]
  have ih:=cutL_rising (b:=r.hi) h4 h
  unfold cutOne
  by_cases a1:r.lo < min r.hi lo
  ·rw [if_pos a1]
   by_cases a2:max r.lo hi < r.hi
   ·rw [if_pos a2]
    exact ⟨h1,a1,h3,by show min r.hi lo≤max r.lo hi;omega,a2,h3,ih⟩
   ·rw [if_neg a2]
    exact ⟨h1,a1,h3,ih.weak (by show min r.hi lo≤_;omega)⟩
  ·rw [if_neg a1]
   by_cases a2:max r.lo hi < r.hi
   ·rw [if_pos a2]
    exact ⟨by show _≤max r.lo hi;omega,a2,h3,ih⟩
   ·rw [if_neg a2]
    exact ih.weak (by omega)
theorem cutL_canon:∀ {l:List Rg} {b q lo hi:Int},Canon b q l→lo < hi→Canon b q (cutL l lo hi)
 | [],b,q,lo,hi,_,_=>by rw [cutL_nil];exact trivial
 | r :: l,b,q,lo,hi,⟨h1,h2,h3,h4,h5⟩,h=>by
  rw [cutL_cons h]
  have ih:=cutL_canon (b:=r.hi) (q:=r.p) h5 h
  unfold cutOne
  by_cases a1:r.lo < min r.hi lo
  ·rw [if_pos a1]
   by_cases a2:max r.lo hi < r.hi
   ·rw [if_pos a2]
    exact ⟨h1,a1,h3,h4,by show min r.hi lo≤max r.lo hi;omega,a2,h3,fun e=>by have e2:max r.lo hi=min r.hi lo:=e;omega,ih⟩
   ·rw [if_neg a2]
    refine ⟨h1,a1,h3,h4,?_⟩
    by_cases e:r.hi≤lo
    ·rw [show min r.hi lo=r.hi by omega];exact ih
    ·exact ih.weak (by show min r.hi lo < _;omega)
  ·rw [if_neg a1]
   by_cases a2:max r.lo hi < r.hi
   ·rw [if_pos a2]
    refine ⟨by show _≤max r.lo hi;omega,a2,h3,fun e=>?_,ih⟩
    have e2:max r.lo hi=b:=e
    exact h4 (by omega)
   ·rw [if_neg a2]
    exact ih.weak (by omega)
/-- What of a row lies from lo on, below hi. -/
def clipR (lo hi:Int) (r:Rg):Rg:=⟨max r.lo lo,min r.hi hi,r.p⟩
def piecesL (l:List Rg) (lo hi:Int):List Rg:=(l.map (clipR lo hi)).filter fun x=>decide (x.lo < x.hi)
theorem piecesL_cons (r:Rg) (l:List Rg) (lo hi:Int):piecesL (r :: l) lo hi=if max r.lo lo < min r.hi hi then clipR lo hi r :: piecesL l lo hi else piecesL l lo hi:=by
 unfold piecesL
 rw [List.map_cons]
 by_cases h:max r.lo lo < min r.hi hi
 ·rw [if_pos h,List.filter_cons_of_pos (by simpa using show (clipR lo hi r).lo < (clipR lo hi r).hi from h)]
 ·rw [if_neg h,List.filter_cons_of_neg (by simpa using show ¬ (clipR lo hi r).lo < (clipR lo hi r).hi from h)]
/-- Do the pieces, one behind the other, make up all from at to hi, each in some way? -/
def allGo (ok:Int→Bool) (hi:Int):Int→List Rg→Bool
 | at_,[]=>decide (at_=hi)
 | at_,r :: l=>if r.lo ≠ at_∨ok r.p=false then false else allGo ok hi r.hi l
def allL (l:List Rg) (lo hi:Int) (ok:Int→Bool):Bool:=if hi≤lo then true else allGo ok hi lo (piecesL l lo hi)
theorem allGo_iff (ok:Int→Bool) (lo hi:Int):∀ (l:List Rg) (at_:Int),Rising at_ l∨(∃ b,Rising b l∧b≤at_∧at_=lo)→lo≤at_→at_≤hi→(allGo ok hi at_ (piecesL l lo hi)=true↔∀ x,at_≤x→x < hi→pf l x ≠ -1∧ok (pf l x)=true)
 | [],at_,_,_,h2=>by
  show decide (at_=hi)=true↔_
  rw [decide_eq_true_iff]
  refine ⟨fun e x h3 h4=>by omega,fun h=>?_⟩
  by_cases e:at_=hi
  ·exact e
  ·exact absurd rfl (h at_ (Int.le_refl _) (by omega)).1
 | r :: l,at_,hr,h1,h2=>by
  obtain ⟨r1,r2,r3,r4⟩:(r.lo < at_→at_=lo)∧r.lo < r.hi∧0≤r.p∧Rising r.hi l:=by
   rcases hr with ⟨a1,a2,a3,a4⟩ | ⟨b,⟨a1,a2,a3,a4⟩,hb,he⟩
   ·exact ⟨fun h=>by omega,a2,a3,a4⟩
   ·exact ⟨fun _=>he,a2,a3,a4⟩
  rw [piecesL_cons]
  by_cases h:max r.lo lo < min r.hi hi
  ·rw [if_pos h,allGo]
   by_cases hlo:max r.lo lo=at_
   ·cases hok:ok r.p with
    | false=>
     rw [if_pos (.inr hok)]
     refine ⟨fun e=>Bool.noConfusion e,fun hh=>?_⟩
     have:=hh at_ (Int.le_refl _) (by omega)
     rw [pf_yes (by omega),hok] at this
     exact absurd this.2 (by decide)
    | true=>
     rw [if_neg (by rintro (e | e);exact e hlo;exact absurd (show ok r.p=false from e) (by rw [hok];decide))]
     show allGo ok hi (min r.hi hi) (piecesL l lo hi)=true↔_
     by_cases hhi:r.hi≤hi
     ·rw [show min r.hi hi=r.hi by omega,allGo_iff ok lo hi l r.hi (.inl r4) (by omega) hhi]
      refine ⟨fun hh x h3 h4=>?_,fun hh x h3 h4=>?_⟩
      ·by_cases hx:x < r.hi
       ·rw [pf_yes (by omega)];exact ⟨by omega,hok⟩
       ·rw [pf_no (by omega)];exact hh x (by omega) h4
      ·have:=hh x (by omega) h4
       rwa [pf_no (by omega)] at this
     ·have e:piecesL l lo hi=[]:=by
       unfold piecesL
       refine List.filter_eq_nil_iff.2 fun s hs=>?_
       obtain ⟨t,ht,rfl⟩:=List.mem_map.1 hs
       have:=r4.mem t ht
       have e2:¬ max t.lo lo < min t.hi hi:=by omega
       simpa using (show ¬ (clipR lo hi t).lo < (clipR lo hi t).hi from e2)
      rw [e,show min r.hi hi=hi by omega]
      refine ⟨fun _ x h3 h4=>?_,fun _=>by show decide (hi=hi)=true;simp⟩
      rw [pf_yes (by omega)]
      exact ⟨by omega,hok⟩
   ·rw [if_pos (.inl hlo)]
    refine ⟨fun e=>Bool.noConfusion e,fun hh=>?_⟩
    have:=(hh at_ (Int.le_refl _) (by omega)).1
    rw [pf_no (by omega),pf_below r4 (by omega)] at this
    exact absurd rfl this
  ·rw [if_neg h]
   by_cases hb:r.hi≤at_
   ·have hat:at_=lo:=r1 (by omega)
    rw [allGo_iff ok lo hi l at_ (.inr ⟨r.hi,r4,hb,hat⟩) h1 h2]
    refine ⟨fun hh x h3 h4=>by rw [pf_no (by omega)];exact hh x h3 h4,fun hh x h3 h4=>by have:=hh x h3 h4;rwa [pf_no (by omega)] at this⟩
   ·by_cases he:at_=hi
    ·have hn:∀ m,allGo ok hi at_ (piecesL m lo hi)=true∨piecesL m lo hi ≠ []:=fun m=>by
      cases hm:piecesL m lo hi with
      | nil=>left;show decide (at_=hi)=true;simp [he]
      | cons=>right;simp
     have e:piecesL l lo hi=[]:=by
      unfold piecesL
      refine List.filter_eq_nil_iff.2 fun s hs=>?_
      obtain ⟨t,ht,rfl⟩:=List.mem_map.1 hs
      have:=r4.mem t ht
      have e2:¬ max t.lo lo < min t.hi hi:=by omega
      simpa using (show ¬ (clipR lo hi t).lo < (clipR lo hi t).hi from e2)
     rw [e]
     exact ⟨fun _ x h3 h4=>by omega,fun _=>by show decide (at_=hi)=true;simp [he]⟩
    ·have hr2:hi≤r.lo:=by omega
     have e:piecesL l lo hi=[]:=by
      unfold piecesL
      refine List.filter_eq_nil_iff.2 fun s hs=>?_
      obtain ⟨t,ht,rfl⟩:=List.mem_map.1 hs
      have:=r4.mem t ht
      have e2:¬ max t.lo lo < min t.hi hi:=by omega
      simpa using (show ¬ (clipR lo hi t).lo < (clipR lo hi t).hi from e2)
     rw [e]
     refine ⟨fun hd=>absurd (of_decide_eq_true (show decide (at_=hi)=true from hd)) he,fun hh=>?_⟩
     have:=(hh at_ (Int.le_refl _) (by omega)).1
     rw [pf_no (by omega),pf_below r4 (by omega)] at this
     exact absurd rfl this
theorem allL_iff {l:List Rg} {b lo hi:Int} {ok:Int→Bool} (hr:Rising b l) (hb:b≤lo):allL l lo hi ok=true↔∀ x,lo≤x→x < hi→pf l x ≠ -1∧ok (pf l x)=true:=by
 unfold allL
 split
 ·exact ⟨fun _ x h1 h2=>by omega,fun _=>rfl⟩
 ·exact allGo_iff ok lo hi l lo (.inr ⟨b,hr,hb,rfl⟩) (Int.le_refl _) (by omega)
def Apart (a b:Rg):Prop:=a.hi≤b.lo∨b.hi≤a.lo
def Parted (l:List Rg):Prop:=l.Pairwise Apart
def NiceL (l:List Rg):Prop:=∀ r ∈ l,r.lo < r.hi∧0≤r.p
theorem parted_at:∀ {l:List Rg} {r:Rg} {x:Int},Parted l→r ∈ l→(r.lo≤x∧x < r.hi)→pf l x=r.p
 | [],_,_,_,h,_=>by cases h
 | s :: l,r,x,hp,h,hx=>by
  rcases List.mem_cons.1 h with rfl | h
  ·exact pf_yes hx
  ·have h1:=(List.pairwise_cons.1 hp).1 r h
   have h2:=(List.pairwise_cons.1 hp).2
   rw [pf_no (by unfold Apart at h1;omega)]
   exact parted_at h2 h hx
theorem pf_perm {l m:List Rg} (hp:l.Perm m) (h:Parted l) (h':Parted m) (x:Int):pf l x=pf m x:=by
 by_cases e:pf l x = -1
 ·by_cases e2:pf m x = -1
  ·rw [e,e2]
  ·obtain ⟨r,hr,hx,he⟩:=pf_some e2
   rw [he,parted_at h (hp.mem_iff.2 hr) hx]
 ·obtain ⟨r,hr,hx,he⟩:=pf_some e
  rw [he,parted_at h' (hp.mem_iff.1 hr) hx]
theorem Parted.perm {l m:List Rg} (h:Parted l) (hp:l.Perm m):Parted m:=
 (hp.pairwise_iff (fun {_ _} e=>Or.symm e)).1 h
theorem NiceL.perm {l m:List Rg} (h:NiceL l) (hp:l.Perm m):NiceL m:=fun r hr=>h r (hp.mem_iff.2 hr)
theorem rising_of_sorted:∀ {m:List Rg} {b:Int},m.Pairwise (fun a c=>a.lo≤c.lo)→Parted m→NiceL m→(∀ r ∈ m,b≤r.lo)→Rising b m
 | [],_,_,_,_,_=>trivial
 | r :: m,b,hs,hp,hn,hb=>by
  obtain ⟨s1,s2⟩:=List.pairwise_cons.1 hs
  obtain ⟨p1,p2⟩:=List.pairwise_cons.1 hp
  have hr:=hn r (List.mem_cons_self ..)
  refine ⟨hb r (List.mem_cons_self ..),hr.1,hr.2,rising_of_sorted s2 p2 (fun s h=>hn s (List.mem_cons_of_mem _ h)) (fun s h=>?_)⟩
  have h1:=s1 s h
  have h2:=p1 s h
  have h3:=hn s (List.mem_cons_of_mem _ h)
  unfold Apart at h2
  omega
theorem Rising.parted:∀ {l:List Rg} {b:Int},Rising b l→Parted l
 | [],_,_=>List.Pairwise.nil
 | _ :: _,_,⟨_,_,_,h4⟩=>List.Pairwise.cons (fun s hs=>.inl (h4.mem s hs).1) h4.parted
theorem Rising.nice {l:List Rg} {b:Int} (h:Rising b l):NiceL l:=fun r hr=>(h.mem r hr).2
/-- Regions in the order of where they begin. -/
def sortLo (l:List Rg):List Rg:=l.mergeSort fun a c=>decide (a.lo≤c.lo)
theorem sortLo_perm (l:List Rg):(sortLo l).Perm l:=List.mergeSort_perm _ _
theorem sortLo_sorted (l:List Rg):(sortLo l).Pairwise (fun a c=>a.lo≤c.lo):=by
 have:=List.pairwise_mergeSort (le:=fun a c:Rg=>decide (a.lo≤c.lo)) (fun a b c h1 h2=>by
  rw [decide_eq_true_iff] at *;omega) (fun a b=>by
  rw [Bool.or_eq_true,decide_eq_true_iff,decide_eq_true_iff];omega) l
 exact this.imp (fun h=>of_decide_eq_true h)
def joinedL (l:List Rg):List Rg:=joinedS (sortLo l)
theorem sortLo_rising {l:List Rg} {b:Int} (hp:Parted l) (hn:NiceL l) (hb:∀ r ∈ l,b≤r.lo):Rising b (sortLo l):=
 rising_of_sorted (sortLo_sorted l) (hp.perm (sortLo_perm l).symm) (hn.perm (sortLo_perm l).symm) (fun r hr=>hb r ((sortLo_perm l).mem_iff.1 hr))
theorem joinedL_canon {l:List Rg} {b:Int} (hp:Parted l) (hn:NiceL l) (hb:∀ r ∈ l,b≤r.lo):Canon b (-1) (joinedL l):=joinedS_canon (sortLo_rising hp hn hb)
theorem joinedL_pf {l:List Rg} {b:Int} (hp:Parted l) (hn:NiceL l) (hb:∀ r ∈ l,b≤r.lo) (x:Int):pf (joinedL l) x=pf l x:=by
 unfold joinedL
 rw [joinedS_pf (sortLo_rising hp hn hb) x]
 exact pf_perm (sortLo_perm l) (hp.perm (sortLo_perm l).symm) hp x
/-- Whatever way parted regions are sorted by, the outcome is one. -/
theorem joined_any {l d:List Rg} {b:Int} (hd:d.Perm l) (hs:d.Pairwise (fun a c=>a.lo≤c.lo)) (hp:Parted l) (hn:NiceL l) (hb:∀ r ∈ l,b≤r.lo):joinedS d=joinedL l:=by
 have hr:Rising b d:=rising_of_sorted hs (hp.perm hd.symm) (hn.perm hd.symm) (fun r h=>hb r (hd.mem_iff.1 h))
 refine canon_eq (joinedS_canon hr) (joinedL_canon hp hn hb) (fun x _=>?_)
 rw [joinedS_pf hr,joinedL_pf hp hn hb]
 exact pf_perm hd (hp.perm hd.symm) hp x
theorem pf_snoc:∀ {l:List Rg} {r:Rg} {x:Int},NiceL l→pf (l ++ [r]) x=if pf l x = -1 then (if r.lo≤x∧x < r.hi then r.p else -1) else pf l x
 | [],r,x,_=>by
  show (if r.has x=true then r.p else -1)=if (-1:Int) = -1 then _ else _
  rw [if_pos rfl]
  by_cases h:r.lo≤x∧x < r.hi
  ·rw [if_pos (Rg.has_iff.2 h),if_pos h]
  ·rw [if_neg (fun e=>h (Rg.has_iff.1 e)),if_neg h]
 | s :: l,r,x,hn=>by
  have hs:=hn s (List.mem_cons_self ..)
  rw [List.cons_append]
  by_cases h:s.lo≤x∧x < s.hi
  ·rw [pf_yes h,pf_yes h,if_neg (by omega)]
  ·rw [pf_no h,pf_no h,pf_snoc (fun q hq=>hn q (List.mem_cons_of_mem _ hq))]
theorem Parted.snoc {l:List Rg} {r:Rg} (h:Parted l) (hr:∀ s ∈ l,Apart s r):Parted (l ++ [r]):=by
 unfold Parted
 rw [List.pairwise_append]
 refine ⟨h,List.pairwise_singleton _ _,fun a ha b hb=>?_⟩
 obtain rfl:=List.mem_singleton.1 hb
 exact hr a ha
theorem NiceL.snoc {l:List Rg} {r:Rg} (h:NiceL l) (hr:r.lo < r.hi∧0≤r.p):NiceL (l ++ [r]):=fun s hs=>by
 rcases List.mem_append.1 hs with hs | hs
 ·exact h s hs
 ·obtain rfl:=List.mem_singleton.1 hs
  exact hr
theorem cutOne_parted (lo hi:Int) (r:Rg) (h:lo < hi):Parted (cutOne lo hi r):=by
 unfold cutOne
 by_cases h1:r.lo < min r.hi lo
 ·rw [if_pos h1]
  by_cases h2:max r.lo hi < r.hi
  ·rw [if_pos h2]
   refine List.Pairwise.cons (fun s hs=>?_) (List.pairwise_singleton _ _)
   obtain rfl:=List.mem_singleton.1 hs
   exact .inl (by show min r.hi lo≤max r.lo hi;omega)
  ·rw [if_neg h2];exact List.pairwise_singleton _ _
 ·rw [if_neg h1]
  by_cases h2:max r.lo hi < r.hi
  ·rw [if_pos h2];exact List.pairwise_singleton _ _
  ·rw [if_neg h2];exact List.Pairwise.nil
theorem cutL_parted:∀ {l:List Rg} {lo hi:Int},Parted l→lo < hi→Parted (cutL l lo hi)
 | [],lo,hi,_,_=>by rw [cutL_nil];exact List.Pairwise.nil
 | r :: l,lo,hi,h,h0=>by
  obtain ⟨h1,h2⟩:=List.pairwise_cons.1 h
  rw [cutL_cons h0]
  unfold Parted
  rw [List.pairwise_append]
  refine ⟨cutOne_parted lo hi r h0,cutL_parted h2 h0,fun a ha b hb=>?_⟩
  obtain ⟨a1,a2,_,_,_⟩:=cutOne_mem ha
  obtain ⟨t,ht,b1,b2,_⟩:=cutL_mem h0 hb
  have:=h1 t ht
  unfold Apart at *
  omega
theorem cutL_nice {l:List Rg} {lo hi:Int} (h:NiceL l) (h0:lo < hi):NiceL (cutL l lo hi):=fun s hs=>by
 obtain ⟨r,hr,_,_,h3,h4,_⟩:=cutL_mem h0 hs
 have:=h r hr
 omega
theorem cutL_apart {l:List Rg} {r:Rg} (h0:r.lo < r.hi):∀ s ∈ cutL l r.lo r.hi,Apart s r:=fun s hs=>by
 obtain ⟨_,_,_,_,_,_,h5⟩:=cutL_mem h0 hs
 exact h5
/-- A row's ends and ways are bounded. -/
def Within (m:Int) (l:List Rg):Prop:=∀ r ∈ l,0≤r.lo∧r.hi≤m∧r.p≤3
theorem joinR_within {m:Int}:∀ {l:List Rg} {z:Rg},(0≤z.lo∧z.hi≤m∧z.p≤3)→Within m l→Within m (joinR z l)
 | [],z,hz,_=>fun r hr=>by obtain rfl:=List.mem_singleton.1 hr;exact hz
 | s :: l,z,hz,hl=>by
  have hs:=hl s (List.mem_cons_self ..)
  have hl':Within m l:=fun q hq=>hl q (List.mem_cons_of_mem _ hq)
  rw [joinR]
  split
  ·exact joinR_within (z:=⟨z.lo,s.hi,z.p⟩) ⟨hz.1,hs.2.1,hz.2.2⟩ hl'
  ·intro q hq
   rcases List.mem_cons.1 hq with rfl | hq
   ·exact hz
   ·exact joinR_within hs hl' q hq
theorem joinedS_within {m:Int} {l:List Rg} (h:Within m l):Within m (joinedS l):=by
 cases l with
 | nil=>exact h
 | cons z l=>rw [joinedS_cons];exact joinR_within (h z (List.mem_cons_self ..)) (fun q hq=>h q (List.mem_cons_of_mem _ hq))
theorem joinedL_within {m:Int} {l:List Rg} (h:Within m l):Within m (joinedL l):=joinedS_within (fun r hr=>h r ((sortLo_perm l).mem_iff.1 hr))
theorem cutL_within {m lo hi:Int} {l:List Rg} (h:Within m l):Within m (cutL l lo hi):=fun s hs=>by
 by_cases h0:lo < hi
 ·obtain ⟨r,hr,h1,h2,_,h4,_⟩:=cutL_mem h0 hs
  have:=h r hr
  omega
 ·unfold cutL at hs
  rw [if_pos (by omega)] at hs
  exact h s hs
theorem Canon.low {l:List Rg} {b b':Int} (h:Canon b (-1) l) (hb:b'≤b):Canon b' (-1) l:=by
 by_cases e:b'=b
 ·rw [e];exact h
 ·exact h.weak (by omega)
-- the document's: places, and the stretches between them
def insU (x:Int):List Int→List Int
 | []=>[x]
 | y :: l=>if y < x then y :: insU x l else if y=x then y :: l else x :: y :: l
def Strict:List Int→Prop
 | []=>True
 | a :: l=>(∀ c ∈ l,a < c)∧Strict l
theorem insU_mem {x:Int}:∀ {l:List Int} {c:Int},c ∈ insU x l↔c=x∨c ∈ l
 | [],c=>by simp [insU]
 | y :: l,c=>by
  rw [insU]
  split
  ·rw [List.mem_cons,List.mem_cons,insU_mem]
   constructor
   ·rintro (h | h | h)
    ·exact .inr (.inl h)
    ·exact .inl h
    ·exact .inr (.inr h)
   ·rintro (h | h | h)
    ·exact .inr (.inl h)
    ·exact .inl h
    ·exact .inr (.inr h)
  ·split
   ·rename_i h
    rw [List.mem_cons]
    constructor
    ·exact .inr
    ·rintro (e | e)
     ·exact .inl (e.trans h.symm)
     ·exact e
   ·rw [List.mem_cons]
theorem insU_strict {x:Int}:∀ {l:List Int},Strict l→Strict (insU x l)
 | [],_=>⟨fun _ h=>(List.not_mem_nil h).elim,trivial⟩
 | y :: l,⟨h1,h2⟩=>by
  rw [insU]
  split
  ·rename_i h
   exact ⟨fun c hc=>by rcases insU_mem.1 hc with rfl | hc;exact h;exact h1 c hc,insU_strict h2⟩
  ·split
   ·exact ⟨h1,h2⟩
   ·exact ⟨fun c hc=>by rcases List.mem_cons.1 hc with rfl | hc;omega;have:=h1 c hc;omega,h1,h2⟩
def endsL (l:List Rg):List Int:=l.flatMap fun r=>[r.lo,r.hi]
theorem endsL_mem {l:List Rg} {r:Rg} (h:r ∈ l):r.lo ∈ endsL l∧r.hi ∈ endsL l:=
 ⟨List.mem_flatMap.2 ⟨r,h,by simp⟩,List.mem_flatMap.2 ⟨r,h,by simp⟩⟩
def cutsA (all:List Int):List Int:=all.foldl (fun out x=>insU x out) []
def cutsL (l:List Rg) (more:List Int):List Int:=cutsA (more ++ endsL l)
theorem cuts_go:∀ (all out:List Int),Strict out→Strict (all.foldl (fun out x=>insU x out) out)∧∀ c,c ∈ all.foldl (fun out x=>insU x out) out↔c ∈ out∨c ∈ all
 | [],out,h=>⟨h,fun c=>by simp⟩
 | x :: all,out,h=>by
  obtain ⟨h1,h2⟩:=cuts_go all (insU x out) (insU_strict h)
  refine ⟨h1,fun c=>?_⟩
  rw [List.foldl_cons,h2 c,insU_mem,List.mem_cons]
  constructor
  ·rintro ((e | e) | e)
   ·exact .inr (.inl e)
   ·exact .inl e
   ·exact .inr (.inr e)
  ·rintro (e | e | e)
   ·exact .inl (.inr e)
   ·exact .inl (.inl e)
   ·exact .inr e
theorem cutsL_strict (l:List Rg) (more:List Int):Strict (cutsL l more):=(cuts_go _ [] trivial).1
theorem cutsL_mem {l:List Rg} {more:List Int} {c:Int}:c ∈ cutsL l more↔c ∈ more∨c ∈ endsL l:=by
 have:=(cuts_go (more ++ endsL l) [] trivial).2 c
 unfold cutsL cutsA
 rw [this,List.mem_append]
 simp
/-- The stretches between places of which something is said. -/
def segsG (f:Int→Int):List Int→List Rg
 | a :: b :: l=>(if f a = -1 then [] else [⟨a,b,f a⟩]) ++ segsG f (b :: l)
 | _=>[]
theorem segs_rising {f:Int→Int} (hf:∀ x,f x = -1∨0≤f x):∀ {l:List Int} {a:Int},Strict (a :: l)→Rising a (segsG f (a :: l))
 | [],_,_=>trivial
 | b :: l,a,⟨h1,h2⟩=>by
  have hab:=h1 b (List.mem_cons_self ..)
  have ih:=segs_rising hf h2
  rw [segsG]
  by_cases e:f a = -1
  ·rw [if_pos e]
   exact ih.weak (by omega)
  ·rw [if_neg e]
   exact ⟨Int.le_refl _,hab,by have:=hf a;show 0≤f a;omega,ih⟩
theorem segs_pf {f:Int→Int} (hf:∀ x,f x = -1∨0≤f x):∀ {l:List Int} {a:Int},Strict (a :: l) →
  (∀ u ∈ a :: l,∀ x,u≤x→(∀ c ∈ a :: l,¬ (u < c∧c≤x))→f x=f u)→(∀ x,(∀ c ∈ a :: l,c≤x)→f x = -1)→∀ x,a≤x→pf (segsG f (a :: l)) x=f x
 | [],a,_,_,h2,x,hx=>(h2 x (fun c hc=>by obtain rfl:=List.mem_singleton.1 hc;exact hx)).symm
 | b :: l,a,⟨s1,s2⟩,h1,h2,x,hx=>by
  have hab:=s1 b (List.mem_cons_self ..)
  have hr:=segs_rising hf s2
  rw [segsG]
  by_cases hxb:x < b
  ·have e:f x=f a:=h1 a (List.mem_cons_self ..) x hx (fun c hc=>by
    rcases List.mem_cons.1 hc with rfl | hc
    ·omega
    ·rcases List.mem_cons.1 hc with rfl | hc
     ·omega
     ·have:=s2.1 c hc;omega)
   by_cases e1:f a = -1
   ·rw [if_pos e1,e,e1]
    exact pf_below hr hxb
   ·rw [if_neg e1,e]
    exact pf_yes (r:=⟨a,b,f a⟩) ⟨hx,hxb⟩
  ·have ih:=segs_pf hf s2 (fun u hu x hux hc=>h1 u (List.mem_cons_of_mem _ hu) x hux (fun c hc'=>by
    rcases List.mem_cons.1 hc' with rfl | hc'
    ·rcases List.mem_cons.1 hu with rfl | hu
     ·omega
     ·have:=s2.1 u hu;omega
    ·exact hc c hc')) (fun x hc=>h2 x (fun c hc'=>by
     rcases List.mem_cons.1 hc' with rfl | hc'
     ·have:=hc b (List.mem_cons_self ..);omega
     ·exact hc c hc')) x (by omega)
   by_cases e1:f a = -1
   ·rw [if_pos e1];exact ih
   ·rw [if_neg e1]
    rw [show [(⟨a,b,f a⟩:Rg)] ++ segsG f (b :: l)=⟨a,b,f a⟩ :: segsG f (b :: l) from rfl,pf_no (show ¬ (a≤x∧x < b) by omega)]
    exact ih
/-- The document's row of a page function. -/
def madeL (f:Int→Int) (at_:List Int):List Rg:=joinedS (segsG f at_)
theorem made_is {f:Int→Int} {at_:List Int} (hf:∀ x,f x = -1∨0≤f x) (hs:Strict at_)
  (h1:∀ u ∈ at_,∀ x,u≤x→(∀ c ∈ at_,¬ (u < c∧c≤x))→f x=f u) (h2:∀ x,(∀ c ∈ at_,c≤x)→f x = -1) (h3:∀ x,(∀ c ∈ at_,x < c)→f x = -1) {b:Int} (hb:∀ c ∈ at_,b≤c) :
  Canon b (-1) (madeL f at_)∧∀ x,pf (madeL f at_) x=f x:=by
 cases at_ with
 | nil=>exact ⟨trivial,fun x=>(h2 x (fun _ h=>by cases h)).symm⟩
 | cons a l=>
  have hr:=segs_rising hf hs
  refine ⟨(joinedS_canon hr).low (hb a (List.mem_cons_self ..)),fun x=>?_⟩
  unfold madeL
  rw [joinedS_pf hr]
  by_cases hx:a≤x
  ·exact segs_pf hf hs h1 h2 x hx
  ·rw [pf_below hr (by omega),h3 x (fun c hc=>by
    rcases List.mem_cons.1 hc with rfl | hc
    ·omega
    ·have:=hs.1 c hc;omega)]
theorem pf_same:∀ {l:List Rg} {x y:Int},(∀ r ∈ l,(r.lo≤x∧x < r.hi)↔(r.lo≤y∧y < r.hi))→pf l x=pf l y
 | [],_,_,_=>rfl
 | r :: l,x,y,h=>by
  have h1:=h r (List.mem_cons_self ..)
  by_cases hx:r.lo≤x∧x < r.hi
  ·rw [pf_yes hx,pf_yes (h1.1 hx)]
  ·rw [pf_no hx,pf_no (fun e=>hx (h1.2 e)),pf_same (fun s hs=>h s (List.mem_cons_of_mem _ hs))]
theorem pf_pos {l:List Rg} (hn:NiceL l) (x:Int):pf l x = -1∨0≤pf l x:=by
 by_cases h:pf l x = -1
 ·exact .inl h
 ·obtain ⟨r,hr,_,e⟩:=pf_some h
  exact .inr (by rw [e];exact (hn r hr).2)
def withF (l:List Rg) (lo hi how x:Int):Int:=if lo≤x∧x < hi then how else pf l x
def withL (l:List Rg) (lo hi how:Int):List Rg:=madeL (withF l lo hi how) (cutsL l [lo,hi])
theorem with_is {l:List Rg} {lo hi how b:Int} (hn:NiceL l) (hh:how = -1∨0≤how) (h0:lo < hi) (hb:∀ r ∈ l,b≤r.lo) (hbl:b≤lo) :
  Canon b (-1) (withL l lo hi how)∧∀ x,pf (withL l lo hi how) x=withF l lo hi how x:=by
 have hm:∀ c,c ∈ cutsL l [lo,hi]↔c=lo∨c=hi∨c ∈ endsL l:=fun c=>by rw [cutsL_mem];simp [or_assoc]
 refine made_is (fun x=>?_) (cutsL_strict _ _) (fun u hu x hux hc=>?_) (fun x hc=>?_) (fun x hc=>?_) (fun c hc=>?_)
 ·unfold withF
  split
  ·exact hh
  ·exact pf_pos hn x
 ·have k1:=hc lo ((hm lo).2 (.inl rfl))
  have k2:=hc hi ((hm hi).2 (.inr (.inl rfl)))
  have e:pf l x=pf l u:=pf_same (fun r hr=>by
   obtain ⟨e1,e2⟩:=endsL_mem hr
   have q1:=hc r.lo ((hm _).2 (.inr (.inr e1)))
   have q2:=hc r.hi ((hm _).2 (.inr (.inr e2)))
   constructor <;> intro <;> omega)
  unfold withF
  rw [e]
  by_cases h:lo≤x∧x < hi
  ·rw [if_pos h,if_pos (by omega)]
  ·rw [if_neg h,if_neg (by omega)]
 ·have k2:=hc hi ((hm hi).2 (.inr (.inl rfl)))
  unfold withF
  rw [if_neg (by omega)]
  exact pf_none (fun r hr=>by have:=hc r.hi ((hm _).2 (.inr (.inr (endsL_mem hr).2)));omega)
 ·have k1:=hc lo ((hm lo).2 (.inl rfl))
  unfold withF
  rw [if_neg (by omega)]
  exact pf_none (fun r hr=>by have:=hc r.lo ((hm _).2 (.inr (.inr (endsL_mem hr).1)));omega)
 ·rcases (hm c).1 hc with rfl | rfl | hc
  ·exact hbl
  ·omega
  ·obtain ⟨r,hr,hc⟩:=List.mem_flatMap.1 hc
   have h1:=hb r hr
   have h2:=(hn r hr).1
   rcases List.mem_cons.1 hc with rfl | hc
   ·exact h1
   ·obtain rfl:=List.mem_singleton.1 hc
    omega
/-- Unmap is the document's. -/
theorem unmap_with {c:List Rg} {lo hi:Int} (hc:Canon 0 (-1) c) (h:lo < hi):cutL c lo hi=withL c lo hi (-1):=by
 have hmin:min 0 lo≤0∧min 0 lo≤lo:=by omega
 obtain ⟨w1,w2⟩:=with_is (l:=c) (lo:=lo) (hi:=hi) (how:=-1) (b:=min 0 lo) hc.rising.nice (.inl rfl) h (fun r hr=>by have:=(hc.rising.mem r hr).1;omega) hmin.2
 refine canon_eq ((cutL_canon hc h).low hmin.1) w1 (fun x _=>?_)
 rw [pf_cutL h,w2];rfl
theorem snoc_low {c:List Rg} {r:Rg} {b:Int} (h1:∀ s ∈ c,b≤s.lo) (h2:b≤r.lo):∀ s ∈ c ++ [r],b≤s.lo:=fun s hs=>by
 rcases List.mem_append.1 hs with hs | hs
 ·exact h1 s hs
 ·obtain rfl:=List.mem_singleton.1 hs
  exact h2
/-- Protect is the document's; so is Map, where nothing was. -/
theorem protect_with {c:List Rg} {lo hi p:Int} (hc:Canon 0 (-1) c) (h0:0≤lo) (h:lo < hi) (hp:0≤p):joinedL (cutL c lo hi ++ [⟨lo,hi,p⟩])=withL c lo hi p:=by
 have hlow:∀ s ∈ cutL c lo hi,(0:Int)≤s.lo:=fun s hs=>((cutL_rising hc.rising h).mem s hs).1
 have hpart:=(cutL_parted hc.rising.parted h).snoc (r:=⟨lo,hi,p⟩) (cutL_apart (r:=⟨lo,hi,p⟩) h)
 have hnice:=(cutL_nice hc.rising.nice h).snoc (r:=⟨lo,hi,p⟩) ⟨h,hp⟩
 obtain ⟨w1,w2⟩:=with_is (l:=c) (lo:=lo) (hi:=hi) (how:=p) (b:=0) hc.rising.nice (.inr hp) h (fun r hr=>(hc.rising.mem r hr).1) h0
 refine canon_eq (joinedL_canon hpart hnice (snoc_low hlow h0)) w1 (fun x _=>?_)
 rw [joinedL_pf hpart hnice (snoc_low hlow h0),w2,pf_snoc (cutL_nice hc.rising.nice h),pf_cutL h]
 unfold withF
 by_cases hx:lo≤x∧x < hi
 ·rw [if_pos hx,if_pos rfl,if_pos hx,if_pos hx]
 ·rw [if_neg hx,if_neg hx,if_neg hx]
  by_cases e:pf c x = -1
  ·rw [if_pos e,e]
  ·rw [if_neg e]
theorem cut_none {c:List Rg} {lo hi:Int} (h:∀ r ∈ c,¬ (r.lo < hi∧lo < r.hi)) (hn:NiceL c) (h0:lo < hi):cutL c lo hi=c:=by
 induction c with
 | nil=>exact cutL_nil
 | cons r c ih=>
  rw [cutL_cons h0,ih (fun s hs=>h s (List.mem_cons_of_mem _ hs)) (fun s hs=>hn s (List.mem_cons_of_mem _ hs))]
  have h1:=h r (List.mem_cons_self ..)
  have h2:=(hn r (List.mem_cons_self ..)).1
  unfold cutOne
  by_cases a:r.hi≤lo
  ·rw [if_pos (by omega),if_neg (by omega)]
   rw [show min r.hi lo=r.hi by omega]
   rfl
  ·rw [if_neg (by omega),if_pos (by omega)]
   rw [show max r.lo hi=r.lo by omega]
   rfl
theorem map_with {c:List Rg} {lo hi p:Int} (hc:Canon 0 (-1) c) (h0:0≤lo) (h:lo < hi) (hp:0≤p) (hno:∀ r ∈ c,¬ (r.lo < hi∧lo < r.hi)):joinedL (c ++ [⟨lo,hi,p⟩])=withL c lo hi p:=by
 rw [← protect_with hc h0 h hp,cut_none hno hc.rising.nice h]
theorem pieces_none {c:List Rg} {lo hi:Int} (hn:NiceL c) (h0:lo < hi):piecesL c lo hi=[]↔∀ r ∈ c,¬ (r.lo < hi∧lo < r.hi):=by
 induction c with
 | nil=>exact ⟨fun _ _ h=>(List.not_mem_nil h).elim,fun _=>rfl⟩
 | cons r c ih=>
  have h1:=(hn r (List.mem_cons_self ..)).1
  rw [piecesL_cons]
  split
  ·exact ⟨fun e=>absurd e (by simp),fun hh=>absurd (hh r (List.mem_cons_self ..)) (by omega)⟩
  ·rw [ih (fun s hs=>hn s (List.mem_cons_of_mem _ hs))]
   exact ⟨fun hh s hs=>by
    rcases List.mem_cons.1 hs with rfl | hs
    ·omega
    ·exact hh s hs,fun hh s hs=>hh s (List.mem_cons_of_mem _ hs)⟩
theorem last_of:∀ {at_:List Int} {x u0:Int},u0 ∈ at_→u0≤x→∃ u ∈ at_,u≤x∧u0≤u∧∀ c ∈ at_,¬ (u < c∧c≤x)
 | [],_,_,h,_=>by cases h
 | a :: l,x,u0,h,hx=>by
  by_cases hl:∃ v ∈ l,v≤x∧u0≤v
  ·obtain ⟨v,hv,hvx,h0v⟩:=hl
   obtain ⟨u,hu,h1,h2,h3⟩:=last_of hv hvx
   by_cases ha:u < a∧a≤x
   ·exact ⟨a,List.mem_cons_self ..,ha.2,by omega,fun c hc=>by
     rcases List.mem_cons.1 hc with rfl | hc
     ·omega
     ·have:=h3 c hc;omega⟩
   ·exact ⟨u,List.mem_cons_of_mem _ hu,h1,by omega,fun c hc=>by
     rcases List.mem_cons.1 hc with rfl | hc
     ·exact ha
     ·exact h3 c hc⟩
  ·have hua:u0=a:=by
    rcases List.mem_cons.1 h with e | e
    ·exact e
    ·exact absurd ⟨u0,e,hx,Int.le_refl _⟩ hl
   exact ⟨a,List.mem_cons_self ..,by omega,by omega,fun c hc=>by
    rcases List.mem_cons.1 hc with rfl | hc
    ·omega
    ·intro hh;exact hl ⟨c,hc,hh.2,by omega⟩⟩
/-- The document's All. -/
def askL (l:List Rg) (lo hi:Int) (ok:Int→Bool) (a:Int):Bool:=decide (a < lo) || (decide (hi≤a) || (!decide (pf l a = -1) && ok (pf l a)))
def refAll (l:List Rg) (lo hi:Int) (ok:Int→Bool):Bool:=if hi≤lo then true else (cutsL l [lo,hi]).all (askL l lo hi ok)
theorem refAll_iff {l:List Rg} {lo hi:Int} {ok:Int→Bool}:refAll l lo hi ok=true↔∀ x,lo≤x→x < hi→pf l x ≠ -1∧ok (pf l x)=true:=by
 unfold refAll
 split
 ·exact ⟨fun _ x h1 h2=>by omega,fun _=>rfl⟩
 ·rename_i h
  rw [List.all_eq_true]
  have hm:∀ c,c ∈ cutsL l [lo,hi]↔c=lo∨c=hi∨c ∈ endsL l:=fun c=>by rw [cutsL_mem];simp [or_assoc]
  constructor
  ·intro hh x h1 h2
   obtain ⟨u,hu,hux,hlu,hc⟩:=last_of ((hm lo).2 (.inl rfl)) h1
   have e:pf l x=pf l u:=pf_same (fun r hr=>by
    obtain ⟨e1,e2⟩:=endsL_mem hr
    have q1:=hc r.lo ((hm _).2 (.inr (.inr e1)))
    have q2:=hc r.hi ((hm _).2 (.inr (.inr e2)))
    constructor <;> intro <;> omega)
   have:=hh u hu
   unfold askL at this
   rw [decide_eq_false (by omega),decide_eq_false (by omega)] at this
   simp only [Bool.false_or,Bool.and_eq_true,Bool.not_eq_true',decide_eq_false_iff_not] at this
   rw [e]
   exact this
  ·intro hh a _
   unfold askL
   by_cases h1:a < lo
   ·rw [decide_eq_true h1];rfl
   ·by_cases h2:hi≤a
    ·rw [decide_eq_true h2];simp
    ·have:=hh a (by omega) (by omega)
     rw [decide_eq_false this.1,this.2]
     simp
theorem all_ref {l:List Rg} {b lo hi:Int} {ok:Int→Bool} (hr:Rising b l) (hb:b≤lo):allL l lo hi ok=refAll l lo hi ok:=by
 rw [Bool.eq_iff_iff,allL_iff hr hb,refAll_iff]
end Go.Proofs.YtoepnbfifjgpfaaGreat
