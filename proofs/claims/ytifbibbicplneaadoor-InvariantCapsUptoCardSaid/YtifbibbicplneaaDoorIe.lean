/-
 A part of the proof. No condition.
-/
import Derived.Test.YtifbibbicplneaaDoorIb
namespace Go.Proofs.YtifbibbicplneaaDoor
open Go.Ab Go.Proofs
set_option maxRecDepth 100000
theorem Dy{c:List Int}{i j:Nat}{v:Int}:(c.set i v).getD j 0=if i=j/\i<c.length then v else c.getD j 0:=by
 rw[List.getD_eq_getElem?_getD,List.getD_eq_getElem?_getD,List.getElem?_set]
 by_cases h:i=j
 ·subst h
  by_cases g:i<c.length
  ·simp[g]
  ·rw[if_pos rfl,if_neg g,if_neg (by rintro⟨_,q⟩; exact g q),List.getElem?_eq_none (by omega)]
 ·rw[if_neg h,if_neg (by rintro⟨q,_⟩; exact h q)]
theorem yV{m k:Int}{c d:List Int}(h:ku m c d)(hk:k<=m):ku k c d:=⟨h.1,fun i=>by have:=h.2 i; omega⟩
theorem G7{m:Int}{c d:List Int}{i:Int}(hm:0<=m)(h:ku (m+1) c d)(hc:c.getD i.toNat 0≠0):ku m (aW c i) (aW d i):=by
 refine⟨by simp[aW,h.1],fun j=>?_⟩
 unfold aW
 rw[Dy,Dy,<- h.1]
 have h1:=h.2 i.toNat
 have h2:=h.2 j
 split<;>omega
theorem Bv{m:Int}{c d:List Int}{i x y:Int}(h:ku m c d)(hx:0<=x)(hy:0<=y)(hxy:min x m=min y m):ku m (iC c i x) (iC d i y):=by
 refine⟨by simp[iC,h.1],fun j=>?_⟩
 unfold iC
 rw[Dy,Dy,<- h.1]
 have h1:=h.2 i.toNat
 have h2:=h.2 j
 split<;>omega
theorem Nl{r:Rule}{m:Int}{c d:List Int}(h:ku m c d): ∀ i,ku m (lu r c i) (lu r d i):=by
 intro i
 induction i with
 |zero =>
  have:lu r c 0=lu r d 0:=by simp only[lu]; rw[h.1]; rfl
  rw[this]
  refine⟨rfl,fun j=>?_⟩
  have:(lu r d 0).getD j 0=0:=by
   simp only[lu,List.range_zero,List.foldl_nil,List.getD_eq_getElem?_getD,List.getElem?_replicate]
   split<;>rfl
  omega
 |succ i ih =>
  have e: ∀ c:List Int,lu r c (i+1)=iC (lu r c i) (r.response.getD i 0) (c.getD i 0):=fun c=>by simp[lu,List.range_succ,List.foldl_append]
  rw[e,e]
  have:=h.2 i
  exact Bv ih this.1 this.2.1 this.2.2
theorem yX{m:Int}{c d:List Int}(hm:1<=m)(h:ku m c d)(i:Nat):(c.getD i 0==0)=(d.getD i 0==0):=by
 have:=h.2 i
 rw[Bool.eq_iff_iff,beq_iff_eq,beq_iff_eq]; omega
theorem Ku{r:Rule}{m:Int}{c d:List Int}(hm:1<=m)(h:ku m c d):nO r c=nO r d:=by
 have e: ∀ i,(c.getD i 0==0)=(d.getD i 0==0):=yX hm h
 unfold nO qR wz
 rw[h.1]
 simp only[e]
theorem Np{r:Rule}{a b:Elem}{m:Int}(hm:0<=m)(hv:a.value=b.value)(h:ku (m+2) a.counts b.counts):(bM r a=none/\bM r b=none)\/ ∃ x y,bM r a=some x/\bM r b=some y/\x.value=y.value/\ku m x.counts y.counts:=by
 have hz:=yX (by omega) h
 have out: ∀ {c d:List Int},ku m c d-> ∃ x y,some (⟨bif decide (r.write>=0) then r.write else a.value,iC c r.to 1⟩:Elem)=some x/\some (⟨bif decide (r.write>=0) then r.write else a.value,iC d r.to 1⟩:Elem)=some y/\x.value=y.value/\ku m x.counts y.counts:=fun hcd =>
  ⟨_,_,rfl,rfl,rfl,Bv (x:=1) (y:=1) hcd (by decide) (by decide) rfl⟩
 unfold bM
 simp only
 rw[<- hz,<- hv]
 cases h1:(decide (0<=r.read)&&a.value !=r.read||a.counts.getD r.fr.toNat 0==0) with
 |true=>exact .inl ⟨rfl,rfl⟩
 |false =>
  have hne:a.counts.getD r.fr.toNat 0≠0:=by
   rw[Bool.or_eq_false_iff] at h1
   exact beq_eq_false_iff_ne.1 h1.2
  have hd:ku (m+1) (aW a.counts r.fr) (aW b.counts r.fr):=G7 (by omega) (by rw[Int.add_assoc]; exact h) hne
  generalize aW a.counts r.fr=c at *
  generalize aW b.counts r.fr=d at *
  simp only[cond_false]
  cases k1:(r.kind==1) with
  |true =>
   simp only[cond_true]
   rw[<- Ku (r:=r) (by omega) hd]
   cases q:nO r c with
   |false=>exact .inl ⟨rfl,rfl⟩
   |true=>exact .inr (out (yV hd (by omega)))
  |false =>
   simp only[cond_false]
   cases k2:(r.kind==2) with
   |true =>
    simp only[cond_true]
    rw[<- yX (by omega) hd]
    cases q:(c.getD r.jw.toNat 0==0) with
    |true=>exact .inl ⟨rfl,rfl⟩
    |false =>
     refine .inr ?_
     exact out (Bv (x:=1) (y:=1) (G7 hm hd (beq_eq_false_iff_ne.1 q)) (by decide) (by decide) rfl)
   |false =>
    simp only[cond_false]
    cases k3:(r.kind==3) with
    |true =>
     refine .inr ?_
     rw[<- show c.length=d.length from hd.1]
     exact out (Nl (yV hd (by omega)) _)
    |false =>
     refine .inr ?_
     exact out (yV hd (by omega))
theorem G8{m:Int}{e:Elem}(hm:0<=m)(he: ∀ x∈e.counts,0<=x):ku m e.counts (iQ m e).counts:=by
 refine⟨by simp[iQ,iH],fun i=>?_⟩
 have:=MO he i
 show 0<=_/\0<=(iH m e.counts).getD i 0/\_=min ((iH m e.counts).getD i 0) m
 rw[Iy hm]; omega
theorem CX{n vals:Nat}{k:Clause}{a b:Elem}{m:Int}(hk:yg n vals k)(hn:a.counts.length=n)(hr:mW k<=m)(hv:a.value=b.value)(h:ku m a.counts b.counts):holdsB k a=holdsB k b:=by
 unfold holdsB
 rw[hv]
 congr 1
 exact Eh h hr fun s hs x hx=>by rw[hn]; exact(hk.each s hs).1.1 x hx
theorem wH{n vals:Nat}{l:List Clause}{a b:Elem}{m:Int}(hk: ∀ k∈l,yg n vals k)(hn:a.counts.length=n)(hr:aU l<=m)(hv:a.value=b.value)(h:ku m a.counts b.counts):bg l a=bg l b :=
 yQ fun k hkl=>CX (hk k hkl) hn (Int.le_trans (xE hkl) hr) hv h
section
variable {rs:List Rule} {es:List Elem} {l a:List Clause} {f:Clause->Bool}
end
end Go.Proofs.YtifbibbicplneaaDoor
