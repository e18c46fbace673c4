/-
 A finished search: it is closed, and accepted if the property holds. No condition.
-/
import Derived.Test.YtdloaandiobgdaaGreatDoorQd
namespace Go.Proofs.YtdloaandiobgdaaGreatDoor
open Go.Ab Go.Proofs
set_option maxRecDepth 100000
structure LZ(p:aF)(q:Prop')(b:List Elem):Prop where
 fit:Ko p b
 len:b.length<=100
 fix:growE p b=some b
 up: ∀ y∈mG p q,IK b y=true
theorem Zu{l:List Elem}{y:Elem}:IK (bG l) y=IK l y:=He l y
theorem Zv{l:List Elem}{y:Elem}(h:y∈l):IK l y=true:=cL.2 ⟨y,h,Kq y⟩
theorem Zw{p:aF}{b l:List Elem}(h:growE p b=some l):l=bG (oO p b b.length)/\b.any (fun x=>(uy p x).1 !=0)=false:=by
 unfold growE at h;cases h1:b.any (fun x=>(uy p x).1 !=0) with
 |true=>rw[h1] at h; cases h
 |false =>
  rw[h1,ap] at h;cases h2:decide (100<(bG (oO p b b.length)).length) with
  |true=>rw[h2] at h; cases h
  |false=>rw[h2,ap] at h; cases h; exact⟨rfl,rfl⟩
theorem LZ.min{p:aF}{q:Prop'}{b:List Elem}(h:LZ p q b):bG b=b:=by
 have:=(Zw h.fix).1;rw[this,Vg]
theorem LZ.pre{p:aF}{q:Prop'}{b:List Elem}(h:LZ p q b){x:Elem}(hx:x∈b):(uy p x).1=0/\ ∀ y∈(uy p x).2,IK b y=true:=by
 obtain⟨h1,h2⟩:=Zw h.fix;refine⟨by have:=cq.1 h2 x hx; simpa using this,fun y hy=>?_⟩;rw[h1,Zu];refine Zv (ci.2 (.inr (cX.2 ⟨x,?_,hy⟩)));rw[bx]; exact hx
theorem agP{p:aF}{x:Elem}(h:(uy p x).1=0):(p.rules.any fun r=>(vW p r x).1 !=0)=false/\(uy p x).2=bG (nV p x p.rules.length):=by
 unfold uy at h ⊢;cases h1:p.rules.any (fun r=>(vW p r x).1 !=0) with
 |true=>rw[h1] at h; exact absurd (show(4:Int)=0 from h) (by decide)
 |false =>
  rw[h1,ap] at h;cases h2:decide (100<(bG (nV p x p.rules.length)).length) with
  |true=>rw[h2] at h; exact absurd (show(4:Int)=0 from h) (by decide)
  |false=>exact⟨rfl,rfl⟩
theorem Zx{p:aF}{x:Elem}(hF:EC p x):uz p x=false:=by
 unfold uz;have h1:=hF.len;have h2:=hF.val;rw[show((x.counts.length:Int) !=p.states.length)=false by simp; omega,show decide (x.value<0)=false by simp; omega,show decide (x.value>=max 1 (p.values.length:Int))=false by simp only[bA]; omega]
 have:x.counts.all Ez=true:=by
  rw[bj];intro y hy;have:=hF.nums y hy;unfold Ez;simp; omega
 rw[this]; rfl
theorem adk{p:aF}{i:Nat}{x:Elem}(hcov:IL p=0)(hF:EC p x)(hi:i<p.rules.length):Vh p i x=vW p (p.rules.getD i default) x:=by
 unfold Vh;rw[Zx hF,show(decide ((i:Int)<0)||decide ((i:Int)>=p.rules.length))=false by simp; omega,hcov]; rfl
theorem Rf{p:aF}{q:Prop'}(hc:fB p q=0):IL p=0:=by
 obtain⟨_,_,b3,b4⟩:=Bg hc;unfold IL; rw[show(bV p !=0)=false by simp[b3],b4]; rfl
theorem Kr{b:List Elem}{y z:Elem}(h1:IK b y=true)(h2:pO y z=true):IK b z=true:=by
 obtain⟨w,hw,h⟩:=cL.1 h1;exact cL.2 ⟨w,hw,Dt h h2⟩
theorem LZ.rule{p:aF}{q:Prop'}{b:List Elem}(hc:fB p q=0)(h:LZ p q b){i:Nat}(hi:i<p.rules.length):Hf p q b i=true:=by
 unfold Hf;rw[show(fB p q==0)=true by simp[hc],show(decide ((i:Int)<0)||decide ((i:Int)>=p.rules.length))=false by simp; omega];show b.all (Tv p b i)=true;rw[bj];intro x hx;obtain⟨h1,h2⟩:=h.pre hx;obtain⟨h3,h4⟩:=agP h1;have hmem:p.rules.getD i default∈p.rules:=by rw[getD_some hi]; exact bh hi
 have h5:=cq.1 h3 _ hmem;unfold Tv;rw[adk (Rf hc) (h.fit x hx) hi,aD];refine⟨by simpa using h5,bj.2 fun y hy=>?_⟩;have hy':y∈nV p x p.rules.length:=by
  unfold nV;rw[bx];exact cX.2 ⟨_,hmem,hy⟩
 have h6:IK (uy p x).2 y=true:=by rw[h4,Zu]; exact Zv hy'
 obtain⟨z,hz,h7⟩:=cL.1 h6;exact Kr (h2 z hz) h7
theorem LZ.basis{p:aF}{q:Prop'}{b:List Elem}(hc:fB p q=0)(h:LZ p q b):Ej p q b=b.all fun x=> !(BJ p q x):=by
 have h1:b.all (Au p q)=b.all fun x=> !(BJ p q x):=by
  rw[cR,bj,bj];constructor
  ·intro g x hx;have:=g x hx;unfold Au at this;rw[aD] at this;exact this.2
  ·intro g x hx;unfold Au;rw[Zx (h.fit x hx),g x hx]; rfl
 have h2:(mG p q).all (IK b)=true:=bj.2 h.up;have h3:((List.range p.rules.length).all fun i:Nat=>Hf p q b i)=true:=bj.2 fun i hi=>h.rule hc (cD.1 hi)
 unfold Ej;rw[show(fB p q==0)=true by simp[hc],cI h.len,h1,h2,h3]; simp
end Go.Proofs.YtdloaandiobgdaaGreatDoor
namespace Go.Proofs.YtdloaandiobgdaaGreatDoor
open Go.Ab Go.Proofs
set_option maxRecDepth 100000
theorem pY{a b:List Int}(hl:a.length=b.length)(h: ∀ j,a.getD j 0<=b.getD j 0):jL a b=true:=lM.2 ⟨hl,fun j _=>h j⟩
theorem IQ{a b:List Int}{i:Int}(hi:i.toNat<b.length)(h0: ∀ j,0<=a.getD j 0):jL (aV a i 1) b=true↔1<=b.getD i.toNat 0/\jL a (aV b i (-1))=true:=by
 constructor
 ·intro h;have hl:=(lM.1 h).1;rw[kZ] at hl;have hg:=fun j=>jA h j
  refine⟨?_,pY (by rw[kZ,hl]) fun j=>?_⟩
  ·have:=hg i.toNat;rw[gG,bc ⟨rfl,by omega⟩] at this;have:=h0 i.toNat;omega
  ·have:=hg j;rw[gG] at this ⊢;rw[hl] at this;split at this<;>rename_i hc
   ·rw[bc hc]; omega
   ·rw[bB hc]; exact this
 ·rintro⟨h1,h⟩;have hl:=(lM.1 h).1;rw[kZ] at hl;refine pY (by rw[kZ,hl]) fun j=>?_
  have:=jA h j;rw[gG] at this ⊢;rw[hl];split at this<;>rename_i hc
  ·rw[bc hc]; omega
  ·rw[bB hc]; exact this
theorem Nl{a b:List Int}{i:Int}(hl:a.length=b.length)(h0: ∀ j,0<=b.getD j 0):jL (iP a i) b=true↔jL a (aV b i 1)=true:=by
 constructor
 ·intro h;refine pY (by rw[kZ,hl]) fun j=>?_
  have:=jA h j;rw[Vj] at this;rw[gG];rw[hl] at this;split at this<;>rename_i hc
  ·rw[bc hc]; omega
  ·rw[bB hc]; exact this
 ·intro h;refine pY (by rw[jB,hl]) fun j=>?_
  have h1:=jA h j;rw[gG] at h1;rw[Vj,hl];have h2:=h0 j;by_cases hc:j=i.toNat/\j<b.length
  ·rw[bc hc] at h1 ⊢; omega
  ·rw[bB hc] at h1 ⊢; omega
theorem IU{c:List Int}{i d:Int}:(aV c i d).length=c.length:=kZ ..
theorem IV{l:List Int}{j:Nat}(h:l.length<=j):l.getD j 0=0:=by simp[List.getD_eq_getElem?_getD,List.getElem?_eq_none h]
theorem FU{r:Rule}{c:List Int}(h:r.all=[]):oW r c=uD r.ex c c.length:=by
 unfold oW;rw[h,aa2]; rfl
theorem aa3{r:Rule}{e R:List Int}(hall:r.all=[])(hl:e.length=R.length)(he: ∀ j,0<=e.getD j 0)(hR: ∀ j,0<=R.getD j 0)(hx:vX R.length r.ex) :
  (∃ l∈(bif oW r (iP e r.to) then [iP e r.to] else r.ex.map fun x=>aV (iP e r.to) x 1),jL l R=true)↔oW r R=true/\jL e (aV R r.to 1)=true:=by
 have hN: ∀ j,0<=(iP e r.to).getD j 0:=IW he;rw[<- Nl hl hR];generalize hn:iP e r.to=N at hN;have hlN:N.length=R.length:=by rw[<- hn,jB,hl]
 cases ha:oW r N with
 |true =>
  constructor
  ·rintro⟨l,h1,h2⟩;rw[bE,br] at h1;subst h1;refine⟨?_,h2⟩;rw[FU hall] at ha ⊢;exact XY h2 hN ha
  ·rintro⟨_,h2⟩;exact⟨N,by rw[bE]; exact br.2 rfl,h2⟩
 |false =>
  rw[FU hall] at ha;constructor
  ·rintro⟨l,h1,h2⟩;rw[ap,ax] at h1;obtain⟨x,hx1,rfl⟩:=h1;obtain⟨hx2,hx3⟩:=hx x hx1;obtain⟨h3,h4⟩:=(IQ (by omega) hN).1 h2;refine⟨?_,pY hlN fun j=>?_⟩
   ·rw[FU hall];unfold uD;rw[cY];right;rw[sJ];refine⟨x.toNat,by omega,?_⟩;rw[aD];refine⟨by have:R.getD x.toNat 0≠0:=(by omega); simpa using this,?_⟩;rw[show((x.toNat:Nat):Int)=x by omega];exact cL.2 ⟨x,hx1,by simp⟩
   ·have:=jA h4 j;rw[gG] at this;split at this<;>omega
  ·rintro⟨h1,h2⟩;rw[FU hall] at h1;unfold uD at h1 ha;rw[cY] at h1;rw[bk] at ha;rcases h1 with h1|h1
   ·rw[h1] at ha; exact absurd ha.1 (by decide)
   ·rw[sJ] at h1;obtain⟨j,hj,h3⟩:=h1;rw[aD] at h3;have hRj:R.getD j 0≠0:=by simpa using h3.1
    have hNj:N.getD j 0=0:=by
     cases hz:(N.getD j 0==0) with
     |true=>simpa using hz
     |false =>
      have:=cq.1 ha.2 j (cD.2 (by omega));rw[hz,h3.2] at this;exact absurd rfl this
    obtain⟨y,hy1,hy2⟩:=cL.1 h3.2;have hyj:y=(j:Int):=by
     have:(j:Int)=y:=by simpa using hy2
     exact this.symm
    subst hyj;refine⟨aV N (j:Int) 1,by rw[ap]; exact ax.2 ⟨_,hy1,rfl⟩,?_⟩;refine(IQ (by simpa using hj) hN).2 ⟨by have:=hR j; show 1<=R.getD ((j:Int)).toNat 0; rw[bN]; omega,pY (by rw[IU,hlN]) fun k=>?_⟩;have:=jA h2 k;rw[gG];by_cases hc:k=((j:Int)).toNat/\k<R.length
    ·rw[bc hc];have hk:k=j:=by rw[bN] at hc; exact hc.1
     subst hk;have:=hR k;omega
    ·rw[bB hc]; exact this
theorem adl{r:Rule}{e R:List Int}(hl:e.length=R.length)(he: ∀ j,0<=e.getD j 0)(hR: ∀ j,0<=R.getD j 0)(hf:r.dQ.toNat<R.length) :
  jL (aV (iP (iP e r.to) r.yT) r.dQ 1) R=true↔1<=R.getD r.dQ.toNat 0/\jL e (aV (aV (aV R r.dQ (-1)) r.yT 1) r.to 1)=true:=by
 rw[IQ hf (IW (IW he))];have key:1<=R.getD r.dQ.toNat 0->((jL (iP (iP e r.to) r.yT) (aV R r.dQ (-1))=true)↔jL e (aV (aV (aV R r.dQ (-1)) r.yT 1) r.to 1)=true):=by
  intro h1;have hR1: ∀ j,0<=(aV R r.dQ (-1)).getD j 0:=fun j=>by
   have:=hR j;rw[gG];split
   ·rename_i hc; rw[<- hc.1] at h1; omega
   ·exact this
  have hR2: ∀ j,0<=(aV (aV R r.dQ (-1)) r.yT 1).getD j 0:=fun j=>by
   have:=hR1 j;rw[gG];split<;>omega
  rw[Nl (by rw[jB,IU,hl]) hR1,Nl (by rw[IU,IU,hl]) hR2]
 exact⟨fun⟨h1,h2⟩=>⟨h1,(key h1).1 h2⟩,fun⟨h1,h2⟩=>⟨h1,(key h1).2 h2⟩⟩
def sumP(resp R:List Int)(t i:Nat):Int:=((tX resp t i).map fun x=>R.getD x.toNat 0).sum
theorem aa4{resp R:List Int}{t i:Nat}:sumP resp R t (i+1)=bif resp.getD i 0==(t:Int) then sumP resp R t i+R.getD i 0 else sumP resp R t i:=by
 unfold sumP;rw[Hg];cases resp.getD i 0==(t:Int)
 ·rfl
 ·rw[bE,bE,cP,List.sum_append]; simp
theorem aa5{r:Rule}{R:List Int}{t:Nat}(ht:t<R.length)(hp:vX R.length r.response)(hl:r.response.length=R.length): ∀ i,i<=R.length->(xP r R i).getD t 0=sumP r.response R t i:=by
 intro i;induction i with
 |zero =>
  intro _
  have:(xP r R 0)=List.replicate R.length 0:=rfl
  rw[this,getD_some (by simpa using ht),List.getElem_replicate]; rfl
 |succ i ih =>
  intro hi;have Rh:=hp (r.response.getD i 0) (by rw[getD_some (by omega)]; exact bh _);rw[Kt,gG,ih (by omega),aa4,zh];cases h:(r.response.getD i 0==(t:Int)) with
  |true =>
   have:r.response.getD i 0=t:=by simpa using h
   rw[bc ⟨by omega,ht⟩]; rfl
  |false =>
   have:r.response.getD i 0≠t:=by simpa using h
   rw[bB (by omega)]; rfl
theorem aa6: ∀ {k:Nat} {caps:List Int} {n:Nat},caps.length=k+1->(∀ x∈caps,0<=x)->((∃ s∈lN (k+1) n,jL s caps=true)↔(n:Int)<=caps.sum):=by
 intro k;induction k with
 |zero =>
  intro caps n hl h0;match caps,hl with
  |[c],_ =>
   constructor
   ·rintro⟨s,hs,h⟩
    have:s=[(n:Int)]:=by simpa [lN] using hs
    subst this;have:=jA h 0;simpa using this
   ·intro h
    exact⟨[(n:Int)],by simp[lN],pY rfl fun j=>by
     match j with
     |0=>simpa using h
     |j+1=>simp⟩
 |succ k ih =>
  intro caps n hl h0;match caps,hl with
  |c::caps,hl =>
   have hl':caps.length=k+1:=by simpa using hl
   have hc:=h0 c (by simp);have h0': ∀ x∈caps,0<=x:=fun x hx=>h0 x (dE _ hx)
   have hcons: ∀ (f:Int) (t:List Int),jL (f::t) (c::caps)=true↔f<=c/\jL t caps=true:=fun f t=>by
    constructor
    ·intro h;refine⟨by simpa using jA h 0,pY (by have:=(lM.1 h).1; simpa using this) fun j=>by simpa using jA h (j+1)⟩
    ·rintro⟨h1,h2⟩;refine pY (by have:=(lM.1 h2).1; simp[this]) fun j=>?_
     match j with
     |0=>simpa using h1
     |j+1=>simpa using jA h2 j
   rw[eJ];constructor
   ·rintro⟨s,hs,h⟩;simp only[lN,cX,cD,ax] at hs;obtain⟨f,hf,t,ht,rfl⟩:=hs;obtain⟨h1,h2⟩:=(hcons _ _).1 h;have:=(ih hl' h0' (n:=n-f)).1 ⟨t,ht,h2⟩;omega
   ·intro h;have hs:0<=caps.sum:=by
     have: ∀ l:List Int,(∀ x∈l,0<=x)->0<=l.sum:=by
      intro l;induction l with
      |nil=>intro _; simp
      |cons a l ih=>intro g; rw[eJ]; have:=g a (by simp); have:=ih fun x hx=>g x (dE _ hx); omega
     exact this _ h0'
    obtain⟨f,hf1,hf2⟩: ∃ f:Nat,f<=n/\(f:Int)<=c/\((n-f:Nat):Int)<=caps.sum:=by
     by_cases hcn:(n:Int)<=c
     ·exact⟨n,ba _,hcn,by rw[eN]; exact hs⟩
     ·exact⟨c.toNat,by omega,by omega,by omega⟩
    obtain⟨t,ht,h2⟩:=(ih hl' h0' (n:=n-f)).2 hf2.2;refine⟨(f:Int)::t,?_,(hcons _ _).2 ⟨hf2.1,h2⟩⟩;simp only[lN,cX,cD,ax];exact⟨f,by omega,t,ht,rfl⟩
theorem Zy: ∀ {xs ks:List Int} {c:List Int} {i:Nat},Dst xs->(∀ x∈xs,x.toNat<c.length)->xs.length=ks.length->i<xs.length->(pR c xs ks).getD (xs.getD i 0).toNat 0=c.getD (xs.getD i 0).toNat 0+ks.getD i 0:=by
 intro xs;induction xs with
 |nil=>intro ks c i _ _ _ hi; cases hi
 |cons x xs ih =>
  intro ks c i hd hx hl hi;cases ks with
  |nil=>cases hl
  |cons k ks =>
   obtain⟨hd1,hd2⟩:=dp.1 hd;cases i with
   |zero =>
    show(pR (aV c x k) xs ks).getD x.toNat 0=c.getD x.toNat 0+k;rw[zi fun y hy=>(hd1 y hy).symm,gG,bc ⟨rfl,hx x (by simp)⟩]
   |succ i =>
    have hi':i<xs.length:=Nat.lt_of_succ_lt_succ hi;have:=ih (c:=aV c x k) (ks:=ks) hd2 (fun y hy=>by rw[IU]; exact hx y (dE _ hy)) (Nat.succ.inj hl) hi';show(pR (aV c x k) xs ks).getD (xs.getD i 0).toNat 0=c.getD (xs.getD i 0).toNat 0+ks.getD i 0;rw[this,gG,bB fun h=>?_];exact hd1 (xs.getD i 0) (by rw[getD_some hi']; exact bh hi') h.1.symm
theorem aa7{resp N R:List Int}(hl:resp.length=N.length)(hlR:R.length=N.length)(h0: ∀ j,0<=N.getD j 0)(hR: ∀ j,0<=R.getD j 0)(hs: ∀ t,N.getD t 0≠0->iQ resp t≠[]): ∀ t,t<=N.length ->
  ((∃ c∈qV resp N (oZ N) t,jL c R=true)↔ ∀ u,u<t->N.getD u 0<=sumP resp R u N.length):=by
 intro t;induction t with
 |zero =>
  intro _;refine⟨fun _ u hu=>absurd hu (by omega),fun _=>⟨List.replicate N.length 0,by simp[qV,oZ],pY (by simp[hlR]) fun j=>?_⟩⟩
  have:(List.replicate N.length (0:Int)).getD j 0=0:=by
   rw[ab,List.getElem?_replicate];split<;>rfl
  rw[this]; exact hR j
 |succ t ih =>
  intro ht;have hI:=Zz (resp:=resp) (need:=N) (b:=List.replicate N.length 0) (n:=t) (by simp[hl]) (by omega) h0;rw[BK];unfold Ku;have alA: ∀ u,0<=sumP resp R u N.length:=fun u=>by
   unfold sumP
   have: ∀ l:List Int,(∀ x∈l,0<=x)->0<=l.sum:=by
    intro l;induction l with
    |nil=>intro _; simp
    |cons a l ih=>intro g; rw[eJ]; have:=g a (by simp); have:=ih fun x hx=>g x (dE _ hx); omega
   refine this _ fun x hx=>?_
   obtain⟨y,_,rfl⟩:=ax.1 hx;exact hR _
  cases hz:(N.getD t 0==0) with
  |true =>
   have hz':N.getD t 0=0:=by simpa using hz
   rw[bE,ih (by omega)];constructor
   ·intro g u hu;by_cases hut:u=t
    ·subst hut; rw[hz']; exact alA u
    ·exact g u (by omega)
   ·intro g u hu; exact g u (by omega)
  |false =>
   have hz':N.getD t 0≠0:=by simpa using hz
   obtain⟨m,hm⟩: ∃ m:Nat,N.getD t 0=(m:Int):=⟨(N.getD t 0).toNat,by have:=h0 t; omega⟩
   have hne:=hs t hz';have hX:iQ resp t=tX resp t N.length:=by rw[<- hl]; rfl
   obtain⟨k,hk⟩: ∃ k,(iQ resp t).length=k+1:=⟨(iQ resp t).length-1,by have:=fg.2 hne; omega⟩
   have hdst:=Kv (resp:=resp) (t:=t);have hmem: ∀ x∈iQ resp t,∃ j:Nat,j<N.length/\resp.getD j 0=(t:Int)/\x=j:=fun x hx=>by
    obtain⟨j,a,b,c⟩:=BL.1 hx;exact⟨j,by omega,b,c⟩
   have adn:=aa6 (caps:=(iQ resp t).map fun x=>R.getD x.toNat 0) (n:=m) (k:=k) (by rw[bL,hk]) (fun x hx=>by obtain⟨y,_,rfl⟩:=ax.1 hx; exact hR _);have alB:((iQ resp t).map fun x=>R.getD x.toNat 0).sum=sumP resp R t N.length:=by rw[hX]; rfl
   rw[alB] at adn;have hold: ∀ c∈qV resp N (oZ N) t,c.length=N.length/\ ∀ x∈iQ resp t,c.getD x.toNat 0=0:=fun c hc=>by
    refine⟨by rw[hI.len c hc,hl],fun x hx=>?_⟩;obtain⟨j,a,b,rfl⟩:=hmem x hx;have:=hI.old c hc j (by omega) (by rw[b]; omega);rw[bN,this,ab,List.getElem?_replicate];split<;>rfl
   rw[ap,hm,bN];constructor
   ·rintro⟨c,hc,h⟩ u hu;obtain⟨b,hb,hc⟩:=cX.1 hc;rw[Aw,ax] at hc;obtain⟨s,hsm,rfl⟩:=hc;obtain⟨hb1,hb2⟩:=hold b hb;have hsl:=Du hsm;obtain⟨hs1,hs2⟩:=Np hsm;have hxs: ∀ x∈iQ resp t,x.toNat<b.length:=fun x hx=>by obtain⟨j,a,_,rfl⟩:=hmem x hx; rw[bN]; omega
    by_cases hut:u=t
    ·subst hut;rw[hm];refine adn.1 ⟨s,by rw[<- hk]; exact hsm,pY (by rw[bL,hsl]) fun j=>?_⟩;by_cases hj:j<(iQ resp u).length
     ·have h1:=jA h ((iQ resp u).getD j 0).toNat;rw[Zy hdst hxs hsl.symm hj] at h1;have h2:=hb2 ((iQ resp u).getD j 0) (by rw[getD_some hj]; exact bh hj);have h3:((iQ resp u).map fun x=>R.getD x.toNat 0).getD j 0=R.getD ((iQ resp u).getD j 0).toNat 0:=by
       rw[getD_some (by rw[bL]; exact hj),ep,getD_some hj]
      rw[h3]; omega
     ·rw[IV (by omega:s.length<=j),IV (by rw[bL]; omega)];exact fp _
    ·refine(ih (by omega)).1 ⟨b,hb,pY (by omega) fun j=>?_⟩ u (by omega);have h1:=jA h j;have h2:b.getD j 0<=(pR b (iQ resp t) s).getD j 0:=by
      have: ∀ (xs ks:List Int) (c:List Int),(∀ k∈ks,0<=k)->c.getD j 0<=(pR c xs ks).getD j 0:=by
       intro xs;induction xs with
       |nil=>intro ks c _; exact fp _
       |cons x xs ih2 =>
        intro ks c hk0;cases ks with
        |nil=>exact fp _
        |cons k ks =>
         have:=ih2 ks (aV c x k) fun y hy=>hk0 y (dE _ hy)
         have hk:=hk0 k (by simp);rw[gG] at this;show _<=(pR (aV c x k) xs ks).getD j 0;split at this<;>omega
      exact this _ _ _ hs2
     omega
   ·intro g;obtain⟨b,hb,h1⟩:=(ih (by omega)).2 fun u hu=>g u (by omega)
    obtain⟨hb1,hb2⟩:=hold b hb;obtain⟨s,hsm,h2⟩:=adn.2 (by rw[<- hm]; exact g t (by omega));have hsl:=Du hsm;have hxs: ∀ x∈iQ resp t,x.toNat<b.length:=fun x hx=>by obtain⟨j,a,_,rfl⟩:=hmem x hx; rw[bN]; omega
    refine⟨pR b (iQ resp t) s,cX.2 ⟨b,hb,by rw[Aw,hk]; exact ax.2 ⟨s,hsm,rfl⟩⟩,pY (by rw[NY]; omega) fun j=>?_⟩;by_cases hj: ∃ x∈iQ resp t,x.toNat=j
    ·obtain⟨x,hx,rfl⟩:=hj;obtain⟨i,hi,rfl⟩:=dt hx;have h3:=jA h2 i;have h4:=Zy (c:=b) (ks:=s) hdst hxs (by omega) hi;have h5:=hb2 _ (bh hi);rw[getD_some hi] at h4;have h6:((iQ resp t).map fun x=>R.getD x.toNat 0).getD i 0=R.getD ((iQ resp t)[i]).toNat 0:=by
      rw[getD_some (by rw[bL]; exact hi),ep]
     rw[h4]; omega
    ·rw[zi fun x hx h=>hj ⟨x,hx,h⟩];exact jA h1 j
theorem ado{r:Rule}{e R:List Int}(hl:e.length=R.length)(he: ∀ j,0<=e.getD j 0)(hR: ∀ j,0<=R.getD j 0)(hrl:r.response.length=R.length)(hrp:vX R.length r.response) :
  (∃ l∈(bif uF r.response (iP e r.to) then [] else qV r.response (iP e r.to) (oZ (iP e r.to)) (iP e r.to).length),jL l R=true)↔jL e (aV (xP r R R.length) r.to 1)=true:=by
 have hN: ∀ j,0<=(iP e r.to).getD j 0:=IW he;have hlN:(iP e r.to).length=R.length:=by rw[jB,hl]
 have hrg: ∀ t,t<R.length->(xP r R R.length).getD t 0=sumP r.response R t R.length:=fun t ht=>aa5 ht hrp hrl _ (ba _)
 have hpos: ∀ t,0<=sumP r.response R t R.length:=fun t=>by
  unfold sumP
  have: ∀ l:List Int,(∀ x∈l,0<=x)->0<=l.sum:=by
   intro l;induction l with
   |nil=>intro _; simp
   |cons a l ih=>intro g; rw[eJ]; have:=g a (by simp); have:=ih fun x hx=>g x (dE _ hx); omega
  refine this _ fun x hx=>?_
  obtain⟨y,_,rfl⟩:=ax.1 hx;exact hR _
 have ajl: ∀ j,0<=(xP r R R.length).getD j 0:=fun j=>by
  by_cases hj:j<R.length
  ·rw[hrg j hj]; exact hpos j
  ·rw[IV (by rw[zh]; omega)]; exact fp _
 rw[<- Nl (by rw[zh,hl]) ajl];generalize iP e r.to=N at hN hlN;have hle:jL N (xP r R R.length)=true↔ ∀ u,u<N.length->N.getD u 0<=sumP r.response R u N.length:=by
  constructor
  ·intro h u hu;have:=jA h u;rw[hrg u (by omega)] at this;rw[hlN]; exact this
  ·intro h;refine pY (by rw[zh,hlN]) fun j=>?_
   by_cases hj:j<N.length
   ·rw[hrg j (by omega),<- hlN]; exact h j hj
   ·rw[IV (by omega)]; exact ajl j
 rw[hle];cases hst:uF r.response N with
 |true =>
  constructor
  ·rintro⟨l,h1,_⟩;rw[bE] at h1; cases h1
  ·intro h;unfold uF at hst;obtain⟨t,ht,h1⟩:=cL.1 hst;have ht':=cD.1 ht;rw[aD] at h1;have h2:=ag h1.1;have h3:Gp r.response t=false:=by simpa using h1.2
   have h4:=h t ht';have h5:tX r.response t N.length=[]:=by
    cases hf:tX r.response t N.length with
    |nil=>rfl
    |cons x l =>
     have hx:x∈tX r.response t N.length:=by rw[hf]; simp
     unfold tX at hx;obtain⟨k,hk,rfl⟩:=ax.1 hx;obtain⟨hk1,hk2⟩:=eE.1 hk;have hk3:=cD.1 hk1;unfold Gp at h3;have:=cq.1 h3 (r.response.getD k 0) (by rw[getD_some (by omega)]; exact bh _);have hk4:r.response.getD k 0=(t:Int):=by simpa using hk2
     rw[hk4] at this;simp at this
   have h6:sumP r.response R t N.length=0:=by unfold sumP; rw[h5]; rfl
   omega
 |false =>
  rw[ap];exact aa7 (by omega) (by omega) hN hR (NZ hst hN) _ (ba _)
theorem agQ{p:aF}{r:Rule}{v a:Int}(ha:0<=a/\a<max 1 (p.values.length:Int)):a∈sK p r v↔(decide (0<=r.read)&&a !=r.read)=false/\(bif decide (r.write>=0) then r.write else a)=v:=by
 unfold sK;by_cases hw:0<=r.write
 ·rw[cI hw,cV,bE,cB (by omega: ¬ r.write<0),fT];by_cases hv:r.write=v
  ·rw[show(r.write !=v)=false by simp[hv],ap,ap];by_cases hr:0<=r.read
   ·rw[cI hr,bE,cV,br];simp[hv]
   ·rw[cB hr,ap,ap,fT,ax];refine⟨fun _=>⟨rfl,hv⟩,fun _=>⟨a.toNat,cD.2 (by omega),by omega⟩⟩
  ·rw[show(r.write !=v)=true by simp[hv],bE];refine⟨nofun,fun h=>absurd h.2 hv⟩
 ·rw[cB hw,fT,ap,ap,cI (by omega:r.write<0),cV];by_cases hr:0<=r.read
  ·rw[cI hr,cV,cV,bE];by_cases hv:r.read=v
   ·rw[show(r.read !=v)=false by simp[hv],ap,br];simp[hv]
   ·rw[show(r.read !=v)=true by simp[hv],bE];refine⟨nofun,fun h=>?_⟩;have h1:a=r.read:=by simpa using h.1
    exact absurd (h1.symm.trans h.2) hv
  ·rw[cB hr,fT,ap,ap,bE,fT,br];simp
theorem FV{v w:Int}{c d:List Int}:pO ⟨v,c⟩ ⟨w,d⟩=true↔v=w/\jL c d=true:=by
 unfold pO;rw[aD,bt]
theorem adp{p:aF}{r:Rule}{e a:Elem}(hFe:EC p e)(hFa:EC p a)(hr:r∈p.rules)(hall:r.all=[]):(∃ y∈zk p r e,pO y a=true)↔ ∃ x,IX r a=some x/\pO e x=true:=by
 have hX:=hFe.Ri hr;have hP:=hX.rf.place;have hle:=hFe.len;have hla:=hFa.len;have h6:=hFe.valid.states;have hpe: ∀ j,0<=e.counts.getD j 0:=fun j=>(uG hFe.nums j).1
 have hpa: ∀ j,0<=a.counts.getD j 0:=fun j=>(uG hFa.nums j).1
 have agR:e.counts.length=a.counts.length:=by omega
 obtain⟨f1,f2⟩:=hP.src;have hL:(∃ y∈zk p r e,pO y a=true)↔a.value∈sK p r e.value/\1<=a.counts.getD r.fr.toNat 0/\ ∃ l∈ED r e.counts,jL l (jc a.counts r.fr)=true:=by
  have hsm:=Hl hP hFe.nums (by omega);constructor
  ·rintro⟨⟨v,c⟩,h1,h2⟩;obtain⟨h3,h4⟩:=Tz.1 h1;obtain⟨av,ac⟩:=a;obtain⟨rfl,h5⟩:=FV.1 h2;obtain⟨l,hl,rfl⟩:=ax.1 h4;obtain⟨h6,h7⟩:=(IQ (by have h9:e.counts.length=ac.length:=agR; show r.fr.toNat<ac.length; omega) fun j=>((hsm l hl).2 j).1).1 h5;exact⟨h3,h6,l,hl,h7⟩
  ·rintro⟨h1,h2,l,hl,h3⟩;refine⟨⟨a.value,aV l r.fr 1⟩,Tz.2 ⟨h1,ax.2 ⟨l,hl,rfl⟩⟩,?_⟩;obtain⟨av,ac⟩:=a;exact FV.2 ⟨rfl,(IQ (by have h9:e.counts.length=ac.length:=agR; show r.fr.toNat<ac.length; omega) fun j=>((hsm l hl).2 j).1).2 ⟨h2,h3⟩⟩
 rw[hL,agQ hFa.val];unfold IX;dsimp only;by_cases hA:a.counts.getD r.fr.toNat 0=0
 ·rw[show(a.counts.getD r.fr.toNat 0==0)=true from bt.2 hA,Bool.or_true,bE];refine⟨fun h=>absurd h.2.1 (by omega),fun⟨x,h,_⟩=>by cases h⟩
 rw[show(a.counts.getD r.fr.toNat 0==0)=false from cE.2 hA,fL];have hR: ∀ j,0<=(jc a.counts r.fr).getD j 0:=fun j=>by
  have h1:=hpa j;have h2:=hpa r.fr.toNat;show 0<=(aV a.counts r.fr (-1)).getD j 0;rw[gG];split
  ·rename_i hc; rw[hc.1]; omega
  ·exact h1
 have hlR:(jc a.counts r.fr).length=a.counts.length:=by simp[jc]
 have h1A:1<=a.counts.getD r.fr.toNat 0:=by have:=hpa r.fr.toNat; omega
 cases hv:(decide (0<=r.read)&&a.value !=r.read) with
 |true =>
  rw[bE];exact⟨fun h=>absurd h.1.1 (by decide),fun⟨x,h,_⟩=>by cases h⟩
 |false =>
  rw[ap];generalize hRR:jc a.counts r.fr=R at hR hlR;generalize hV:(bif decide (r.write>=0) then r.write else a.value)=w;have hout: ∀ c:List Int,(∃ x,(some ⟨w,aV c r.to 1⟩:Option Elem)=some x/\pO e x=true)↔w=e.value/\jL e.counts (aV c r.to 1)=true:=fun c=>by
   obtain⟨ev,ec⟩:=e;constructor
   ·rintro⟨x,h1,h2⟩;cases h1;obtain⟨h3,h4⟩:=FV.1 h2;exact⟨h3.symm,h4⟩
   ·rintro⟨h1,h2⟩;exact⟨_,rfl,FV.2 ⟨h1.symm,h2⟩⟩
  have hno:(∃ x,(none:Option Elem)=some x/\pO e x=true)↔False:=⟨(fun⟨x,h,_⟩=>by cases h),False.elim⟩
  rw[Az];rcases hX.rf.kind with hk|hk|hk
  ·rw[show(r.kind==1)=true by simp[hk],bE,bE,aa3 hall (by omega) hpe hR (by rw[hlR,<- agR]; exact hP.exs)];cases ha:oW r R with
   |true =>
    rw[Bool.not_true,ap,hout];exact⟨fun h=>⟨h.1.2,h.2.2.2⟩,fun h=>⟨⟨(by trivial),h.1⟩,h1A,rfl,h.2⟩⟩
   |false =>
    rw[gM,bE,hno];exact⟨fun h=>absurd h.2.2.1 (by decide),False.elim⟩
  ·rw[show(r.kind==1)=false by simp[hk],show(r.kind==2)=true by simp[hk]];simp only[bE,ap];have hpf:r.dQ.toNat<R.length:=by have:=hP.agS; omega
   have hl1:(∃ l∈[aV (iP (iP e.counts r.to) r.yT) r.dQ 1],jL l R=true)↔jL (aV (iP (iP e.counts r.to) r.yT) r.dQ 1) R=true:=by simp
   rw[hl1,adl (by omega) hpe hR hpf];by_cases hz:R.getD r.dQ.toNat 0=0
   ·rw[show(R.getD r.dQ.toNat 0==0)=true from bt.2 hz,bE,hno];exact⟨fun h=>absurd h.2.2.1 (by omega),False.elim⟩
   ·rw[show(R.getD r.dQ.toNat 0==0)=false from cE.2 hz,ap,hout];have h1:1<=R.getD r.dQ.toNat 0:=by have:=hR r.dQ.toNat; omega
    exact⟨fun h=>⟨h.1.2,h.2.2.2⟩,fun h=>⟨⟨(by trivial),h.1⟩,h1A,h1,h.2⟩⟩
  ·obtain⟨hr1,hr2⟩:=hP.rsp hk;rw[show(r.kind==1)=false by simp[hk],show(r.kind==2)=false by simp[hk],show(r.kind==3)=true by simp[hk]];simp only[bE,ap];rw[ado (by omega) hpe hR (by omega) (by rw[hlR,<- agR]; exact hr2),hout];exact⟨fun h=>⟨h.1.2,h.2.2⟩,fun h=>⟨⟨(by trivial),h.1⟩,h1A,h.2⟩⟩
theorem adq{p:aF}{r:Rule}{e:Elem}(h:(vW p r e).1=0):(vW p r e).2=bG (zk p r e):=by
 unfold vW at h ⊢;cases hb:decide (100<(zk p r e).length)||(zk p r e).any fun x=> !(x.counts.all Ez) with
 |true=>rw[hb] at h; exact absurd (show(4:Int)=0 from h) (by decide)
 |false=>rfl
end Go.Proofs.YtdloaandiobgdaaGreatDoor
