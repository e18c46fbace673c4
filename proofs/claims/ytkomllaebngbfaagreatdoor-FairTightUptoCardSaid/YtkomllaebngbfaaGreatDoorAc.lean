/-
 The abstraction follows every step. No condition.
-/
import Derived.Test.YtkomllaebngbfaaGreatDoorAb
namespace Go.Proofs.YtkomllaebngbfaaGreatDoor
open Go.Ab Go.Proofs
set_option maxRecDepth 100000
def zf(k:Int)(c d:List Int):Prop:=d.length=c.length/\ ∀ j,c.getD j 0=d.getD j 0\/(k<=c.getD j 0/\k<=d.getD j 0)
theorem add_get{c:List Int}{i d:Int}{j:Nat}(hi:0<=i/\i<c.length):(iE c i d).getD j 0=if j=i.toNat then c.getD j 0+d else c.getD j 0:=by
 unfold iE
 rw[Ah (by omega)]
 split
 ·rename_i e; rw[e]
 ·rfl
theorem zf.wk{k k':Int}{c d:List Int}(h:zf k c d)(hk:k'<=k):zf k' c d:=⟨h.1,fun j=>(h.2 j).imp id fun⟨a,b⟩=>⟨by omega,by omega⟩⟩
theorem zf.dec{k i:Int}{c d:List Int}(h:zf (k+1) c d)(hi:0<=i/\i<c.length):zf k (aP c i) (aP d i):=by
 refine⟨by rw[jc,jc,h.1],fun j=>?_⟩
 have:=h.2 j
 rw[Bq hi,Bq (by rw[h.1]; exact hi)]
 split<;>omega
theorem zf.add{k i:Int}{c d:List Int}(h:zf k c d)(hi:0<=i/\i<c.length):zf k (iE c i 1) (iE d i 1):=by
 refine⟨by rw[rO,rO,h.1],fun j=>?_⟩
 have:=h.2 j
 rw[add_get hi,add_get (by rw[h.1]; exact hi)]
 split<;>omega
theorem zf.resp{r:Rule}{c d:List Int}(h:zf 3 c d)(hc: ∀ j,0<=c.getD j 0)(hd: ∀ j,0<=d.getD j 0)(hr:tV c.length r.response): ∀ {n:Nat},n<=r.response.length ->
  zf 2 (lS r c n) (lS r d n)/\(∀ j,0<=(lS r c n).getD j 0)/\ ∀ j,0<=(lS r d n).getD j 0:=by
 intro n
 induction n with
 |zero =>
  intro _
  have z: ∀ (m j:Nat),(List.replicate m (0:Int)).getD j 0=0:=fun m j=>by
   rw[List.getD_eq_getElem?_getD,List.getElem?_replicate]; split<;>rfl
  have e1:lS r c 0=List.replicate c.length 0:=rfl
  have e2:lS r d 0=List.replicate d.length 0:=rfl
  rw[e1,e2]
  refine⟨⟨by rw[List.length_replicate,List.length_replicate,h.1],fun j=>.inl (by rw[z,z])⟩,fun j=>by rw[z]; exact Int.le_refl _,fun j=>by rw[z]; exact Int.le_refl _⟩
 |succ n ih =>
  intro hn
  obtain⟨i1,i2,i3⟩:=ih (by omega)
  have hp:=Vw hr (show n<r.response.length by omega)
  have l1:(lS r c n).length=c.length:=oP
  have l2:(lS r d n).length=c.length:=by rw[oP,h.1]
  rw[uI,uI]
  have q:=h.2 n
  have qc:=hc n
  have qd:=hd n
  refine⟨⟨by rw[rO,rO,l1,l2],fun j=>?_⟩,fun j=>?_,fun j=>?_⟩
  ·have:=i1.2 j; have:=i2 j; have:=i3 j
   rw[add_get (by rw[l1]; exact hp),add_get (by rw[l2]; exact hp)]
   split<;>omega
  ·have:=i2 j
   rw[add_get (by rw[l1]; exact hp)]
   split<;>omega
  ·have:=i3 j
   rw[add_get (by rw[l2]; exact hp)]
   split<;>omega
theorem zf.cap{c d:List Int}(h:zf 2 c d):mZ c=mZ d:=by
 unfold mZ
 refine List.ext_getElem (by simp[h.1]) fun j g1 g2=>?_
 rw[List.length_map] at g1 g2
 have:=h.2 j
 rw[List.getD_eq_getElem?_getD,List.getD_eq_getElem?_getD,List.getElem?_eq_getElem g1,List.getElem?_eq_getElem g2] at this
 simp only[Option.getD_some] at this
 rw[List.getElem_map,List.getElem_map]
 omega
theorem zf.zero{k:Int}{c d:List Int}(h:zf k c d)(hk:1<=k):Ap c d:=⟨h.1,fun j _=>by have:=h.2 j; omega⟩
theorem XY{r:Rule}{e f y:Elem}(hp:rG e.counts.length r)(hv:f.value=e.value)(h:zf 4 e.counts f.counts)(he:Bj e.counts)(hf:Bj f.counts)(hy:dV r e=some y): ∃ z,dV r f=some z/\z.value=y.value/\zf 2 y.counts z.counts:=by
 have hpos:=PI (r:=r) (e:=e) (by rw[hy]; rfl)
 have hq:=FP (a:=e) (e:=f) hp hv (fun i h0 h1=>(h.dec (k:=3) ⟨h0,h1⟩).zero (by omega)) (h.zero (by omega))
 rw[hy] at hq
 obtain⟨z,hz⟩:=Option.isSome_iff_exists.1 hq.symm
 clear hq
 refine⟨z,hz,?_⟩
 have ab4:=PI (r:=r) (e:=f) (by rw[hz]; rfl)
 have d1:=h.dec (k:=3) hp.src
 have l1:(aP e.counts r.fr).length=e.counts.length:=jc
 unfold dV at hy hz
 simp only[hpos,ab4,cond_false] at hy hz
 cases k1:r.kind==1 with
 |true =>
  rw[k1] at hy hz
  simp only[cond_true] at hy hz
  cases ha:pG r (aP e.counts r.fr) with
  |false=>rw[ha] at hy; cases hy
  |true =>
   cases hb:pG r (aP f.counts r.fr) with
   |false=>rw[hb] at hz; cases hz
   |true =>
    rw[ha] at hy; rw[hb] at hz
    simp only[Bool.not_true,cond_false,Option.some.injEq] at hy hz
    subst hy; subst hz
    exact⟨by rw[hv],(d1.add (by rw[l1]; exact hp.dst)).wk (by omega)⟩
 |false =>
  rw[k1] at hy hz
  simp only[cond_false] at hy hz
  cases k2:r.kind==2 with
  |true =>
   rw[k2] at hy hz
   simp only[cond_true] at hy hz
   cases ha:((aP e.counts r.fr).getD r.gQ.toNat 0==0) with
   |true=>rw[ha] at hy; cases hy
   |false =>
    cases hb:((aP f.counts r.fr).getD r.gQ.toNat 0==0) with
    |true=>rw[hb] at hz; cases hz
    |false =>
     rw[ha] at hy; rw[hb] at hz
     simp only[cond_false,Option.some.injEq] at hy hz
     subst hy; subst hz
     have d2:=d1.dec (k:=2) (by rw[l1]; exact hp.acH)
     have l2:(aP (aP e.counts r.fr) r.gQ).length=e.counts.length:=by rw[jc,l1]
     exact⟨by rw[hv],(d2.add (by rw[l2]; exact hp.acI)).add (by rw[rO,l2]; exact hp.dst)⟩
  |false =>
   rw[k2] at hy hz
   simp only[cond_false] at hy hz
   cases k3:r.kind==3 with
   |true =>
    obtain⟨q1,q2⟩:=hp.rsp (by simpa using k3)
    rw[k3] at hy hz
    simp only[cond_true,Option.some.injEq] at hy hz
    subst hy; subst hz
    have l2:(aP f.counts r.fr).length=e.counts.length:=by rw[jc,h.1]
    have:=(d1.resp (Hq he hpos) (Hq hf ab4) (by rw[l1]; exact q2) (n:=e.counts.length) (by omega)).1
    rw[l1,l2]
    exact⟨by rw[hv],this.add (by rw[oP,l1]; exact hp.dst)⟩
   |false =>
    rw[k3] at hy hz
    simp only[cond_false,Option.some.injEq] at hy hz
    subst hy; subst hz
    exact⟨by rw[hv],(d1.add (by rw[l1]; exact hp.dst)).wk (by omega)⟩
def cap4(c:List Int):List Int:=c.map fun n=>min n 4
theorem Ut{f:Int->Int}(h0:f 0=0){c:List Int}(j:Nat):(c.map f).getD j 0=f (c.getD j 0):=by
 rw[List.getD_eq_getElem?_getD,List.getD_eq_getElem?_getD,List.getElem?_map]
 cases c[j]? with
 |none=>exact h0.symm
 |some x=>rfl
theorem Hw{c:List Int}(j:Nat):(mZ c).getD j 0=min (c.getD j 0) 2:=Ut (by decide) j
theorem PK{c:List Int}(j:Nat):(cap4 c).getD j 0=min (c.getD j 0) 4:=Ut (by decide) j
theorem xY(c:List Int):(mZ c).length=c.length:=by simp[mZ]
theorem PL(c:List Int):(cap4 c).length=c.length:=by simp[cap4]
theorem Hy{c:List Int}(h:Bj c):Bj (mZ c):=fun x hx=>by
 obtain⟨y,hy,rfl⟩:=List.mem_map.1 hx
 have:=h y hy; omega
theorem aas(c:List Int):(mZ c).all Rq=true:=List.all_eq_true.2 fun x hx=>by
 obtain⟨y,hy,rfl⟩:=List.mem_map.1 hx
 simp[Rq]; omega
theorem XZ{c:List Int}(h:Bj c):Bj (cap4 c):=fun x hx=>by
 obtain⟨y,hy,rfl⟩:=List.mem_map.1 hx
 have:=h y hy; omega
theorem aat{c:List Int}:zf 4 c (cap4 c):=⟨PL c,fun j=>by rw[PK]; omega⟩
theorem Uu{c:List Int}(h:Bj c)(j:Nat):0<=c.getD j 0:=by
 rcases Nat.lt_or_ge j c.length with hj|hj
 ·exact(h.get hj).1
 ·rw[IZ hj]; exact Int.le_refl _
theorem aau{c:List Int}(h:Bj c)(hs:0<c.sum):0<(mZ c).sum:=by
 rcases Int.lt_or_le 0 (mZ c).sum with h1|h1
 ·exact h1
 ·exfalso
  have hz: ∀ {d:List Int},Bj d->d.sum<=0-> ∀ x∈d,x=0:=by
   intro d
   induction d with
   |nil=>intro _ _ x hx; cases hx
   |cons y d ih =>
    intro ho hsum x hx
    have hy:=ho y (by simp)
    have hd:Bj d:=fun z hz=>ho z (by simp[hz])
    have hd0:=(uH (sJ hd)).1
    rw[List.sum_cons] at hsum
    rcases List.mem_cons.1 hx with rfl|hx
    ·omega
    ·exact ih hd (by omega) x hx
  have h2:=hz (Hy h) h1
  have h3: ∀ x∈c,x=0:=fun x hx=>by
   have:=h2 (min x 2) (List.mem_map.2 ⟨x,hx,rfl⟩)
   have:=h x hx; omega
  have:c.sum=0:=by
   clear hs h h1 h2
   induction c with
   |nil=>rfl
   |cons y d ih=>rw[List.sum_cons,h3 y (by simp),ih fun x hx=>h3 x (by simp[hx])]; rfl
  omega
theorem PN{p:aN}{e:Elem}(hst:p.states.length<=6)(h:xQ p e=false):Ec (jq e)/\xQ p (jq e)=false:=by
 obtain⟨h1,h2⟩:=RF h
 unfold xQ at h
 rw[Bool.or_eq_false_iff] at h
 have hl:(jq e).counts.length<=6:=by show(mZ e.counts).length<=6; rw[xY]; omega
 have t1:=yZ (show e.counts.length<=6 by omega) (sJ h2)
 have t2:=yZ hl (sJ (Hy h2))
 have h3:oN e≠0:=by simpa using h.2
 have h4:=RD e
 have h5:0<oN (jq e):=by
  rw[t2]; exact aau h2 (by omega)
 refine⟨⟨Hy h2,aas _,hl,h5⟩,?_⟩
 unfold xQ
 rw[Bool.or_eq_false_iff]
 refine⟨?_,by simpa using Int.ne_of_gt h5⟩
 have hv:=RG h.1
 unfold xP
 simp only[Bool.or_eq_false_iff,decide_eq_false_iff_not]
 refine⟨⟨⟨?_,?_⟩,by show ¬ e.value<0; omega⟩,by show ¬ e.value>=_; omega⟩
 ·show(((mZ e.counts).length:Int) !=(p.states.length:Int))=false
  rw[xY,h1]; simp
 ·show(!((mZ e.counts).all DW))=false
  rw[sJ (Hy h2)]; rfl
theorem aav{p:aN}{e:Elem}(hc:zX p=0)(hst:p.states.length<=6)(h:xQ p e=false):yX p (jq e)=0:=by
 obtain⟨h1,h2⟩:=PN hst h
 rw[yX,FB hc,h2,h1.two]; rfl
theorem acO{r:Rule}{e:Elem}(hp:rG e.counts.length r)(he:Bj e.counts):(dV r (jq e)).isSome=(dV r e).isSome:=by
 have hl:(jq e).counts.length=e.counts.length:=xY _
 refine FP (a:=jq e) (e:=e) (by rw[hl]; exact hp) rfl (fun i h0 h1=>⟨by rw[jc,jc,hl],fun j _=>?_⟩) ⟨hl.symm,fun j _=>?_⟩
 ·rw[hl] at h1
  rw[Bq (by rw[hl]; exact⟨h0,h1⟩),Bq ⟨h0,h1⟩]
  have:=Uu he j
  have hg:(jq e).counts.getD j 0=min (e.counts.getD j 0) 2:=Hw j
  rw[hg]
  split<;>omega
 ·have:=Uu he j
  have hg:(jq e).counts.getD j 0=min (e.counts.getD j 0) 2:=Hw j
  rw[hg]; omega
theorem X0{r:Rule}{e y:Elem}(hA:Ec (jq e))(hp:rG e.counts.length r)(he:Bj e.counts)(hy:dV r e=some y):jq y∈iF r (jq e):=by
 obtain⟨z,hz,h1,h2⟩:=XY (f:=⟨e.value,cap4 e.counts⟩) hp rfl aat he (XZ he) hy
 rw[iF,rM]
 refine List.mem_filterMap.2 ⟨⟨e.value,cap4 e.counts⟩,(Ea hA.ok hA.len hA.tot).2 ⟨rfl,?_⟩,?_⟩
 ·rw[vg hA.ok]
  refine⟨by show(cap4 e.counts).length=(mZ e.counts).length; rw[PL,xY],fun j _=>?_⟩
  show(cap4 e.counts).getD j 0∈zZ (mZ e.counts) j
  rw[PK]
  unfold zZ
  rw[Hw]
  cases hb:(min (e.counts.getD j 0) 2==2) with
  |true =>
   have:min (e.counts.getD j 0) 2=2:=by simpa using hb
   simp only[cond_true,List.mem_cons,List.not_mem_nil,or_false]; omega
  |false =>
   have:min (e.counts.getD j 0) 2≠2:=by simpa using hb
   simp only[cond_false,List.mem_singleton]; omega
 ·rw[zT,hz]
  simp only[Option.map_some,Option.some.injEq]
  unfold jq
  rw[h1,h2.cap]
theorem VO{p:aN}{a e:Elem}(hc:zX p=0)(hv:yX p a=0)(he:e∈gU a (dR a.counts a.counts.length)):Nb p a e=0/\Xy p a e=true:=by
 obtain⟨hA,hl⟩:=XV hc hv
 obtain⟨g1,g2⟩:=Ht hA he
 have hst:=(yY (xU (Fz hc)).1).states
 have hval:=(Eb.1 he).1
 have hmem:=(FN hA.ok hA.two).1 (Eb.1 he).2
 obtain⟨m1,m2⟩:=(vg hA.ok).1 hmem
 have hV:MX p a=0:=by rw[MX,hc]; exact hv
 have hcv:xQ p a=false:=by
  unfold yX at hv
  cases hb:cvB p a with
  |true=>rw[hb] at hv; cases hv
  |false=>rw[FB hc] at hb; exact hb
 have hva:xP p a=false:=by unfold xQ at hcv; rw[Bool.or_eq_false_iff] at hcv; exact hcv.1
 have hvv:=RG hva
 have hcon:xQ p e=false:=by
  unfold xQ
  rw[Bool.or_eq_false_iff]
  constructor
  ·unfold xP
   simp only[Bool.or_eq_false_iff,decide_eq_false_iff_not]
   refine⟨⟨⟨?_,?_⟩,by rw[hval]; omega⟩,by rw[hval]; omega⟩
   ·rw[g1,hl]; simp
   ·rw[sJ g2]; rfl
  ·have t1:=yZ (show e.counts.length<=6 by rw[g1]; exact hA.len) (sJ g2)
   have t2:=yZ hA.len (sJ hA.ok)
   have h0:=hA.tot
   have:=XQ g1 fun j hj=>by
    have:=vk (m2 j hj); omega
   rw[t1]; simp; omega
 have hE:zY p e=0:=by rw[zY,hc,hcon]; rfl
 have hr:Nb p a e=0:=by rw[Nb,hV]; exact hE
 refine⟨hr,?_⟩
 have hcap:jq e=a:=by
  unfold jq
  rw[hval]
  have:mZ e.counts=a.counts:=by
   refine List.ext_getElem (by rw[xY,g1]) fun j q1 q2=>?_
   have h1:=vk (m2 j q2)
   have h2:=Hw (c:=e.counts) j
   have h3:=List.all_eq_true.1 hA.two (a.counts.getD j 0) (kP q2)
   simp only[Rq,Bool.not_eq_true',decide_eq_false_iff_not] at h3
   rw[List.getD_eq_getElem?_getD,List.getElem?_eq_getElem q1,Option.getD_some] at h2
   rw[h2]
   have h4:a.counts[j]=a.counts.getD j 0:=by rw[List.getD_eq_getElem?_getD,List.getElem?_eq_getElem q2,Option.getD_some]
   rw[h4]; omega
  rw[this]
 rw[Xy,hr,hcap]
 show(true&&(jh a a==0))=true
 rw[Bool.true_and,beq_iff_eq,lX]
end Go.Proofs.YtkomllaebngbfaaGreatDoor
