/-
 A part of the proof. No condition.
-/
import Derived.Test.YtiakcepnlcpanaaGreatDoorIb
import Derived.Test.YtiakcepnlcpanaaGreatDoorId
namespace Go.Proofs.YtiakcepnlcpanaaGreatDoor
open Go.Ab Go.Proofs
set_option maxRecDepth 100000
theorem EY{c:List Int}{i j:Nat}{v:Int}:(c.set i v).getD j 0=if i=j/\i<c.length then v else c.getD j 0:=by
 rw[List.getD_eq_getElem?_getD,List.getD_eq_getElem?_getD,List.getElem?_set]
 by_cases h:i=j
 ·subst h
  by_cases g:i<c.length
  ·simp[g]
  ·rw[if_pos rfl,if_neg g,if_neg (by rintro⟨_,q⟩; exact g q),List.getElem?_eq_none (by omega)]
 ·rw[if_neg h,if_neg (by rintro⟨q,_⟩; exact h q)]
theorem Am{m k:Int}{c d:List Int}(h:kW m c d)(hk:k<=m):kW k c d:=⟨h.1,fun i=>by have:=h.2 i; omega⟩
theorem Ji{m:Int}{c d:List Int}{i:Int}(hm:0<=m)(h:kW (m+1) c d)(hc:c.getD i.toNat 0≠0):kW m (aO c i) (aO d i):=by
 refine⟨by simp[aO,h.1],fun j=>?_⟩
 unfold aO
 rw[EY,EY,<- h.1]
 have h1:=h.2 i.toNat
 have h2:=h.2 j
 split<;>omega
theorem DC{m:Int}{c d:List Int}{i x y:Int}(h:kW m c d)(hx:0<=x)(hy:0<=y)(hxy:min x m=min y m):kW m (dW c i x) (dW d i y):=by
 refine⟨by simp[dW,h.1],fun j=>?_⟩
 unfold dW
 rw[EY,EY,<- h.1]
 have h1:=h.2 i.toNat
 have h2:=h.2 j
 split<;>omega
theorem OY{r:Rule}{m:Int}{c d:List Int}(h:kW m c d): ∀ i,kW m (kF r c i) (kF r d i):=by
 intro i
 induction i with
 |zero =>
  have:kF r c 0=kF r d 0:=by simp only[kF]; rw[h.1]; rfl
  rw[this]
  refine⟨rfl,fun j=>?_⟩
  have:(kF r d 0).getD j 0=0:=by
   simp only[kF,List.range_zero,List.foldl_nil,List.getD_eq_getElem?_getD,List.getElem?_replicate]
   split<;>rfl
  omega
 |succ i ih =>
  have e: ∀ c:List Int,kF r c (i+1)=dW (kF r c i) (r.response.getD i 0) (c.getD i 0):=fun c=>by simp[kF,List.range_succ,List.foldl_append]
  rw[e,e]
  have:=h.2 i
  exact DC ih this.1 this.2.1 this.2.2
theorem Ap{m:Int}{c d:List Int}(hm:1<=m)(h:kW m c d)(i:Nat):(c.getD i 0==0)=(d.getD i 0==0):=by
 have:=h.2 i
 rw[Bool.eq_iff_iff,beq_iff_eq,beq_iff_eq]; omega
theorem MN{r:Rule}{m:Int}{c d:List Int}(hm:1<=m)(h:kW m c d):lY r c=lY r d:=by
 have e: ∀ i,(c.getD i 0==0)=(d.getD i 0==0):=Ap hm h
 unfold lY rD sS
 rw[h.1]
 simp only[e]
theorem OZ{r:Rule}{a b:Elem}{m:Int}(hm:0<=m)(hv:a.value=b.value)(h:kW (m+2) a.counts b.counts):(aX r a=none/\aX r b=none)\/ ∃ x y,aX r a=some x/\aX r b=some y/\x.value=y.value/\kW m x.counts y.counts:=by
 have hz:=Ap (by omega) h
 have out: ∀ {c d:List Int},kW m c d-> ∃ x y,some (⟨bif decide (r.write>=0) then r.write else a.value,dW c r.to 1⟩:Elem)=some x/\some (⟨bif decide (r.write>=0) then r.write else a.value,dW d r.to 1⟩:Elem)=some y/\x.value=y.value/\kW m x.counts y.counts:=fun hcd =>
  ⟨_,_,rfl,rfl,rfl,DC (x:=1) (y:=1) hcd (by decide) (by decide) rfl⟩
 unfold aX
 simp only
 rw[<- hz,<- hv]
 cases h1:(decide (0<=r.read)&&a.value !=r.read||a.counts.getD r.fr.toNat 0==0) with
 |true=>exact .inl ⟨rfl,rfl⟩
 |false =>
  have hne:a.counts.getD r.fr.toNat 0≠0:=by
   rw[Bool.or_eq_false_iff] at h1
   exact beq_eq_false_iff_ne.1 h1.2
  have hd:kW (m+1) (aO a.counts r.fr) (aO b.counts r.fr):=Ji (by omega) (by rw[Int.add_assoc]; exact h) hne
  generalize aO a.counts r.fr=c at *
  generalize aO b.counts r.fr=d at *
  simp only[cond_false]
  cases k1:(r.kind==1) with
  |true =>
   simp only[cond_true]
   rw[<- MN (r:=r) (by omega) hd]
   cases q:lY r c with
   |false=>exact .inl ⟨rfl,rfl⟩
   |true=>exact .inr (out (Am hd (by omega)))
  |false =>
   simp only[cond_false]
   cases k2:(r.kind==2) with
   |true =>
    simp only[cond_true]
    rw[<- Ap (by omega) hd]
    cases q:(c.getD r.gU.toNat 0==0) with
    |true=>exact .inl ⟨rfl,rfl⟩
    |false =>
     refine .inr ?_
     exact out (DC (x:=1) (y:=1) (Ji hm hd (beq_eq_false_iff_ne.1 q)) (by decide) (by decide) rfl)
   |false =>
    simp only[cond_false]
    cases k3:(r.kind==3) with
    |true =>
     refine .inr ?_
     rw[<- show c.length=d.length from hd.1]
     exact out (OY (Am hd (by omega)) _)
    |false =>
     refine .inr ?_
     exact out (Am hd (by omega))
theorem Jj{m:Int}{e:Elem}(hm:0<=m)(he: ∀ x∈e.counts,0<=x):kW m e.counts (oU m e).counts:=by
 refine⟨by simp[oU,nS],fun i=>?_⟩
 have:=Va he i
 show 0<=_/\0<=(nS m e.counts).getD i 0/\_=min ((nS m e.counts).getD i 0) m
 rw[Qx hm]; omega
theorem Ey{n vals:Nat}{k:Clause}{a b:Elem}{m:Int}(hk:zD n vals k)(hn:a.counts.length=n)(hr:nI k<=m)(hv:a.value=b.value)(h:kW m a.counts b.counts):holdsB k a=holdsB k b:=by
 unfold holdsB
 rw[hv]
 congr 1
 exact FY h hr fun s hs x hx=>by rw[hn]; exact(hk.each s hs).1.1 x hx
theorem uK{n vals:Nat}{l:List Clause}{a b:Elem}{m:Int}(hk: ∀ k∈l,zD n vals k)(hn:a.counts.length=n)(hr:bF l<=m)(hv:a.value=b.value)(h:kW m a.counts b.counts):bC l a=bC l b :=
 Ah fun k hkl=>Ey (hk k hkl) hn (Int.le_trans (Bz hkl) hr) hv h
section
variable {rs:List Rule} {es:List Elem} {l a:List Clause} {f:Clause->Bool}
end
end Go.Proofs.YtiakcepnlcpanaaGreatDoor
