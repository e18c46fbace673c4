/-
 All ways to divide a number among places: plain laws. No condition.
-/
import Derived.Test.YtdloaandiobgdaaGreatDoorFa
import Derived.Test.YtdloaandiobgdaaGreatDoorKa
import Derived.Test.YtdloaandiobgdaaGreatDoorRb
namespace Go.Proofs.YtdloaandiobgdaaGreatDoor
open Go.Ab Go.Proofs
set_option maxRecDepth 100000
def lN:Nat->Nat->List (List Int)
 |0,_=>[]
 |1,n=>[[(n:Int)]]
 |k+2,n=>(List.range (n+1)).flatMap fun f=>(lN (k+1) (n-f)).map fun t=>(f:Int)::t
def pR:List Int->List Int->List Int->List Int
 |c,x::xs,k::ks=>pR (aV c x k) xs ks
 |c,_,_=>c
def afg:List Int->List Int->Nat->List (List Int)
 |_,[],_=>[]
 |c,[x],n=>[aV c x n]
 |c,x::y::r,n=>(List.range (n+1)).flatMap fun k:Nat=>afg (aV c x k) (y::r) (n-k)
theorem Aw: ∀ {l:List Int} {c:List Int} {n:Nat},afg c l n=(lN l.length n).map (pR c l):=by
 intro l;induction l with
 |nil=>intro c n; rfl
 |cons x r ih =>
  intro c n;cases r with
  |nil=>rfl
  |cons y r =>
   show((List.range (n+1)).flatMap fun k:Nat=>afg (aV c x k) (y::r) (n-k))=((List.range (n+1)).flatMap fun f=>(lN (r.length+1) (n-f)).map fun t=>(f:Int)::t).map (pR c (x::y::r));rw[List.map_flatMap]
   congr 1
   funext k;rw[ih,cy];rfl
theorem div_pos: ∀ {k n:Nat},0<k->lN k n≠[]:=by
 intro k;induction k with
 |zero=>intro n h; exact absurd h (gw _)
 |succ k ih =>
  intro n _;cases k with
  |zero=>simp[lN]
  |succ k =>
   intro h;simp only[lN,List.flatMap_eq_nil_iff,List.map_eq_nil_iff] at h;exact ih (n:=n-0) (Nat.succ_pos _) (h 0 (by simp))
theorem Du: ∀ {k n:Nat} {s:List Int},s∈lN k n->s.length=k:=by
 intro k;induction k with
 |zero=>intro n s h; cases h
 |succ k ih =>
  intro n s h;cases k with
  |zero=>simp only[lN,br] at h; subst h; rfl
  |succ k =>
   simp only[lN,cX,ax] at h;obtain⟨f,_,t,ht,rfl⟩:=h;rw[bX,ih ht]
theorem Np: ∀ {k n:Nat} {s:List Int},s∈lN k n->s.sum=n/\ ∀ x∈s,0<=x:=by
 intro k;induction k with
 |zero=>intro n s h; cases h
 |succ k ih =>
  intro n s h;cases k with
  |zero =>
   simp only[lN,br] at h; subst h;exact⟨by simp,fun x hx=>by simp at hx; omega⟩
  |succ k =>
   simp only[lN,cX,ax,cD] at h;obtain⟨f,hf,t,ht,rfl⟩:=h;obtain⟨h1,h2⟩:=ih ht;refine⟨by rw[eJ,h1]; omega,fun x hx=>?_⟩;rcases bv.1 hx with rfl|hx
   ·omega
   ·exact h2 x hx
theorem acy: ∀ {k n:Nat},(lN k n).Nodup:=by
 intro k;induction k with
 |zero=>intro n; exact List.nodup_nil
 |succ k ih =>
  intro n;cases k with
  |zero=>simp[lN]
  |succ k =>
   simp only[lN];refine List.pairwise_flatMap.2 ⟨fun f _=>?_,?_⟩
   ·exact List.Pairwise.map _ (fun a b h q=>h (List.cons.inj q).2) ih
   ·refine List.Pairwise.imp ?_ List.nodup_range;intro a b hab s h1 u h2 e;rw[ax] at h1 h2;obtain⟨t,_,rfl⟩:=h1;obtain⟨v,_,rfl⟩:=h2;have:=(List.cons.inj e).1;exact hab (by omega)
theorem afh{α β:Type}{f:α->List β}: ∀ {l:List α},(∀ x∈l,f x≠[])->l.length<=(l.flatMap f).length:=by
 intro l;induction l with
 |nil=>intro _; exact ao _
 |cons x r ih =>
  intro h;have h1:0<(f x).length:=fg.2 (h x (by simp));have h2:=ih fun y hy=>h y (by simp[hy])
  rw[ef,aL,bX]; omega
def iQ(resp:List Int)(t:Nat):List Int:=((List.range resp.length).filter fun x=>resp.getD x 0==(t:Int)).map fun x:Nat=>(x:Int)
def Ku(resp need:List Int)(out:List (List Int))(t:Nat):List (List Int):=bif need.getD t 0==0 then out else out.flatMap fun c=>afg c (iQ resp t) (need.getD t 0).toNat
def qV(resp need:List Int)(out:List (List Int))(n:Nat):List (List Int):=(List.range n).foldl (Ku resp need) out
theorem BK{resp need:List Int}{out:List (List Int)}{n:Nat}:qV resp need out (n+1)=Ku resp need (qV resp need out n) n:=by
 unfold qV;rw[cp,eh]; rfl
theorem afi{resp need:List Int}{out:List (List Int)}{t:Nat}(h:need.getD t 0≠0->iQ resp t≠[]):out.length<=(Ku resp need out t).length:=by
 unfold Ku;cases hb:(need.getD t 0==0) with
 |true=>exact ba _
 |false =>
  have hf:=h (by simpa using hb);refine afh fun c _=>?_
  rw[Aw];intro e;rw[List.map_eq_nil_iff] at e;exact div_pos (fg.2 hf) e
theorem kZ(c:List Int)(i d:Int):(aV c i d).length=c.length:=by simp[aV]
theorem gG(c:List Int)(i d:Int)(j:Nat):(aV c i d).getD j 0=if j=i.toNat/\j<c.length then c.getD j 0+d else c.getD j 0:=by
 unfold aV;generalize i.toNat=a;by_cases h:j=a
 ·subst h;by_cases hl:j<c.length
  ·rw[bc ⟨rfl,hl⟩]; simp[hl]
  ·rw[bB (fun q=>hl q.2),List.set_eq_of_length_le (by omega)]
 ·rw[bB (fun q=>h q.1),ab,dy (Ne.symm h),<- ab]
theorem acz: ∀ (c:List Int) (i d:Int),i.toNat<c.length->(aV c i d).sum=c.sum+d:=by
 intro c i d;unfold aV;generalize i.toNat=a;induction c generalizing a with
 |nil=>intro h; exact absurd h (Nat.not_lt_zero _)
 |cons x r ih =>
  intro h;cases a with
  |zero=>simp only[eV,eJ,gH]; omega
  |succ a =>
   have:=ih a (by simpa using h);simp only[List.set_cons_succ,eJ,List.getD_cons_succ]; omega
theorem NY: ∀ {xs ks:List Int} {c:List Int},(pR c xs ks).length=c.length:=by
 intro xs;induction xs with
 |nil=>intro ks c; rfl
 |cons x xs ih =>
  intro ks c;cases ks with
  |nil=>rfl
  |cons k ks=>show(pR (aV c x k) xs ks).length=_; rw[ih,kZ]
theorem zi: ∀ {xs ks:List Int} {c:List Int} {j:Nat},(∀ x∈xs,x.toNat≠j)->(pR c xs ks).getD j 0=c.getD j 0:=by
 intro xs;induction xs with
 |nil=>intro ks c j _; rfl
 |cons x xs ih =>
  intro ks c j h;cases ks with
  |nil=>rfl
  |cons k ks =>
   show(pR (aV c x k) xs ks).getD j 0=_;rw[ih fun y hy=>h y (by simp[hy]),gG,bB fun q=>h x (by simp) q.1.symm]
theorem afj: ∀ {xs ks:List Int} {c:List Int},xs.length=ks.length->(∀ x∈xs,x.toNat<c.length)->(pR c xs ks).sum=c.sum+ks.sum:=by
 intro xs;induction xs with
 |nil =>
  intro ks c h _;cases ks with
  |nil=>show c.sum=c.sum+0; omega
  |cons k ks=>simp at h
 |cons x xs ih =>
  intro ks c h hx;cases ks with
  |nil=>simp at h
  |cons k ks =>
   show(pR (aV c x k) xs ks).sum=_;rw[ih (by simpa using h) fun y hy=>by rw[kZ]; exact hx y (by simp[hy]),acz c x k (hx x (by simp)),eJ]; omega
def Dst(xs:List Int):Prop:=xs.Pairwise fun a b=>a.toNat≠b.toNat
theorem WV: ∀ {xs ks ks':List Int} {c:List Int},Dst xs->(∀ x∈xs,x.toNat<c.length)->xs.length=ks.length->xs.length=ks'.length->pR c xs ks=pR c xs ks'->ks=ks':=by
 intro xs;induction xs with
 |nil =>
  intro ks ks' c _ _ h1 h2 _;rw[gE.1 h1.symm,gE.1 h2.symm]
 |cons x xs ih =>
  intro ks ks' c hd hx h1 h2 e;cases ks with
  |nil=>simp at h1
  |cons k ks =>
   cases ks' with
   |nil=>simp at h2
   |cons k' ks' =>
    have hd':=dp.1 hd;have hne: ∀ y∈xs,y.toNat≠x.toNat:=fun y hy=>Ne.symm (hd'.1 y hy)
    have hl:=hx x (by simp);have e:pR (aV c x k) xs ks=pR (aV c x k') xs ks':=e;have e1:=dC (fun l=>l.getD x.toNat 0) e;rw[zi hne,zi hne,gG,gG,bc ⟨rfl,hl⟩,bc ⟨rfl,hl⟩] at e1;have hk:k=k':=by omega
    subst hk;rw[ih hd'.2 (fun y hy=>by rw[kZ]; exact hx y (by simp[hy])) (by simpa using h1) (by simpa using h2) e]
theorem acA{xs ks ks':List Int}{c c':List Int}(hd:Dst xs)(hx: ∀ x∈xs,x.toNat<c.length)(hl:c.length=c'.length)(h1:xs.length=ks.length)(h2:xs.length=ks'.length)(ha: ∀ x∈xs,c.getD x.toNat 0=c'.getD x.toNat 0)(e:pR c xs ks=pR c' xs ks'):c=c'/\ks=ks':=by
 have hc:c=c':=by
  apply eW hl;intro j j1 j2;by_cases hj: ∃ x∈xs,x.toNat=j
  ·obtain⟨x,hx1,rfl⟩:=hj;have:=ha x hx1;simpa [j1,j2] using this
  ·have hj': ∀ x∈xs,x.toNat≠j:=fun x hx1 q=>hj ⟨x,hx1,q⟩
   have:=dC (fun l=>l.getD j 0) e;rw[zi hj',zi hj'] at this;simpa [j1,j2] using this
 subst hc;exact⟨rfl,WV hd hx h1 h2 e⟩
theorem Kv{resp:List Int}{t:Nat}:Dst (iQ resp t):=by
 unfold Dst iQ;rw[List.pairwise_map];refine List.Pairwise.filter _ ?_;exact List.pairwise_lt_range.imp fun h=>by omega
theorem BL{resp:List Int}{t:Nat}{x:Int}:x∈iQ resp t↔ ∃ k:Nat,k<resp.length/\resp.getD k 0=(t:Int)/\x=k:=by
 unfold iQ;rw[ax];constructor
 ·rintro⟨k,h,rfl⟩;obtain⟨h1,h2⟩:=eE.1 h;exact⟨k,cD.1 h1,by simpa using h2,rfl⟩
 ·rintro⟨k,h1,h2,rfl⟩;exact⟨k,eE.2 ⟨cD.2 h1,by simpa using h2⟩,rfl⟩
structure ah8(resp need b:List Int)(n:Nat)(out:List (List Int)):Prop where
 nd:out.Nodup
 len: ∀ c∈out,c.length=resp.length
 old: ∀ c∈out,∀ j,j<resp.length->(n:Int)<=resp.getD j 0->c.getD j 0=b.getD j 0
 sum: ∀ c∈out,c.sum=b.sum+(need.take n).sum
theorem ah8.next{resp need b:List Int}{n:Nat}{out:List (List Int)}(h:ah8 resp need b n out)(hn:n<need.length)(h0:0<=need.getD n 0):ah8 resp need b (n+1) (Ku resp need out n):=by
 have hs:(need.take (n+1)).sum=(need.take n).sum+need.getD n 0:=by
  rw[cQ,bS hn,List.sum_append,show need.getD n 0=need[n] from by simp[hn]];simp
 unfold Ku;cases hb:(need.getD n 0==0) with
 |true =>
  have hz:need.getD n 0=0:=by simpa using hb
  refine⟨h.nd,h.len,fun c hc j hj hr=>h.old c hc j hj (by omega),fun c hc=>?_⟩;rw[hs,hz,h.sum c hc]; omega
 |false =>
  have hin: ∀ c∈out,∀ x∈iQ resp n,x.toNat<c.length:=fun c hc x hx=>by
   obtain⟨k,hk,_,rfl⟩:=BL.1 hx;rw[h.len c hc,bN]; exact hk
  have key: ∀ c∈out,∀ d∈afg c (iQ resp n) (need.getD n 0).toNat,∃ s∈lN (iQ resp n).length (need.getD n 0).toNat,d=pR c (iQ resp n) s/\(iQ resp n).length=s.length:=fun c _ d hd=>by
   rw[Aw,ax] at hd;obtain⟨s,hs,rfl⟩:=hd;exact⟨s,hs,rfl,(Du hs).symm⟩
  refine⟨?_,fun d hd=>?_,fun d hd j hj hr=>?_,fun d hd=>?_⟩
  ·refine List.pairwise_flatMap.2 ⟨fun c hc=>?_,?_⟩
   ·rw[Aw];have hn:(lN (iQ resp n).length (need.getD n 0).toNat).Nodup:=acy;rw[List.pairwise_map];refine hn.imp_of_mem fun {s u} hs hu hne e=>hne ?_
    exact WV Kv (hin c hc) (Du hs).symm (Du hu).symm e
   ·refine List.Pairwise.imp_of_mem (fun {c c'} hc hc' hne d hd d' hd' e=>?_) h.nd;obtain⟨s,_,rfl,l1⟩:=key c hc d hd;obtain⟨s',_,rfl,l2⟩:=key c' hc' d' hd';refine hne (acA Kv (hin c hc) (by rw[h.len c hc,h.len c' hc']) l1 l2 (fun x hx=>?_) e).1;obtain⟨k,hk,hr,rfl⟩:=BL.1 hx;rw[bN,h.old c hc k hk (by omega),h.old c' hc' k hk (by omega)]
  ·obtain⟨c,hc,hd⟩:=cX.1 hd;obtain⟨s,_,rfl,_⟩:=key c hc d hd;rw[NY,h.len c hc]
  ·obtain⟨c,hc,hd⟩:=cX.1 hd;obtain⟨s,_,rfl,_⟩:=key c hc d hd;rw[zi (fun x hx=>?_),h.old c hc j hj (by omega)];obtain⟨k,hk,hr',rfl⟩:=BL.1 hx;rw[bN];rintro rfl;omega
  ·obtain⟨c,hc,hd⟩:=cX.1 hd;obtain⟨s,hs',rfl,l1⟩:=key c hc d hd;rw[afj l1 (hin c hc),h.sum c hc,(Np hs').1,hs,Int.toNat_of_nonneg h0]; omega
theorem Zz{resp need b:List Int}{n:Nat}(hb:b.length=resp.length)(hn:n<=need.length)(h0: ∀ i,0<=need.getD i 0):ah8 resp need b n (qV resp need [b] n):=by
 induction n with
 |zero =>
  refine⟨by simp[qV],fun c hc=>?_,fun c hc j _ _=>?_,fun c hc=>?_⟩ <;>
  ·have:c=b:=by simpa [qV] using hc
   subst this;first|exact hb|rfl|simp
 |succ n ih =>
  rw[BK];exact(ih (by omega)).next (by omega) (h0 n)
def sK(p:aF)(r:Rule)(v:Int):List Int :=
 bif decide (0<=r.write)&&r.write !=v then [] else bif decide (r.write<0)&&(decide (0<=r.read)&&r.read !=v) then [] else
 bif decide (0<=r.read) then [r.read] else bif decide (r.write<0) then [v] else(List.range (max 1 p.values.length)).map fun x:Nat=>(x:Int)
def iP(c:List Int)(i:Int):List Int:=c.set i.toNat (max (c.getD i.toNat 0-1) 0)
def uF(resp need:List Int):Bool:=(List.range need.length).any fun t=>decide (0<need.getD t 0)&& !(Gp resp t)
def ED(r:Rule)(c:List Int):List (List Int) :=
 let rest:=iP c r.to
 bif r.kind==1 then(bif oW r rest then [rest] else r.ex.map fun x=>aV rest x 1) else
 bif r.kind==2 then [aV (iP rest r.yT) r.dQ 1] else
 bif r.kind==3 then(bif uF r.response rest then [] else qV r.response rest [List.replicate rest.length 0] rest.length) else [rest]
def BG(r:Rule)(c:List Int):List (List Int):=(ED r c).map fun l=>aV l r.fr 1
def zk(p:aF)(r:Rule)(e:Elem):List Elem:=(sK p r e.value).flatMap fun v=>(BG r e.counts).map fun c=>⟨v,c⟩
theorem jB{c:List Int}{i:Int}:(iP c i).length=c.length:=by simp[iP]
theorem IW{c:List Int}{i:Int}(h: ∀ j,0<=c.getD j 0)(j:Nat):0<=(iP c i).getD j 0:=by
 unfold iP;generalize i.toNat=a;by_cases hj:j=a
 ·subst hj;by_cases hl:j<c.length
  ·have e:(c.set j (max (c.getD j 0-1) 0)).getD j 0=max (c.getD j 0-1) 0:=by simp[hl]
   rw[e]; omega
  ·rw[List.set_eq_of_length_le (by omega)]; exact h j
 ·rw[ab,dy (Ne.symm hj),<- ab]; exact h j
structure Even(n:Nat)(l:List (List Int)):Prop where
 nd:l.Nodup
 len: ∀ c∈l,c.length=n
 sum: ∃ s:Int,∀ c∈l,c.sum=s
theorem Tz{p:aF}{r:Rule}{e x:Elem}:x∈zk p r e↔x.value∈sK p r e.value/\x.counts∈BG r e.counts:=by
 unfold zk;rw[cX];constructor
 ·rintro⟨v,hv,hx⟩;obtain⟨c,hc,rfl⟩:=ax.1 hx;exact⟨hv,hc⟩
 ·rintro⟨hv,hc⟩;exact⟨_,hv,ax.2 ⟨_,hc,rfl⟩⟩
theorem ah9{p:aF}{r:Rule}{e:Elem}:(zk p r e).length=(BG r e.counts).length*(sK p r e.value).length:=by
 unfold zk;generalize sK p r e.value=l;induction l with
 |nil=>rfl
 |cons v l ih=>rw[ef,aL,ih,bL,bX,Nat.mul_succ,gR]
theorem Vj(c:List Int)(i:Int)(j:Nat):(iP c i).getD j 0=if j=i.toNat/\j<c.length then max (c.getD j 0-1) 0 else c.getD j 0:=by
 unfold iP;generalize i.toNat=a;by_cases h:j=a
 ·subst h;by_cases hl:j<c.length
  ·rw[bc ⟨rfl,hl⟩]; simp[hl]
  ·rw[bB (fun q=>hl q.2),List.set_eq_of_length_le (by omega)]
 ·rw[bB (fun q=>h q.1),ab,dy (Ne.symm h),<- ab]
theorem NZ{resp need:List Int}(h:uF resp need=false)(h0: ∀ j,0<=need.getD j 0)(t:Nat)(hn:need.getD t 0≠0):iQ resp t≠[]:=by
 have ht:t<need.length:=by
  rcases eR t need.length with q|q
  ·exact q
  ·exact absurd (by simp[List.getD_eq_getElem?_getD,List.getElem?_eq_none q]) hn
 unfold uF at h;rw[cq] at h;have:=h t (cD.2 ht);have hp:0<need.getD t 0:=by have:=h0 t; omega
 rw[cI hp,cV,bq,Bool.not_eq_false] at this;have hm:=TA.1 this;obtain⟨k,hk,he⟩:=dt hm;exact List.ne_nil_of_mem (BL.2 ⟨k,hk,by simp[hk,he],rfl⟩)
theorem WW{resp need:List Int}{out:List (List Int)}(h: ∀ t,need.getD t 0≠0->iQ resp t≠[]){n:Nat}: ∀ k,(qV resp need out n).length<=(qV resp need out (n+k)).length:=by
 intro k;induction k with
 |zero=>exact ba _
 |succ k ih =>
  rw[<- gt,BK];exact di ih (afi (h _))
theorem aia{resp need:List Int}{out:List (List Int)}{t:Nat}(h:need.getD t 0≠0):(Ku resp need out t).length=out.length*(lN (iQ resp t).length (need.getD t 0).toNat).length:=by
 unfold Ku;rw[show(need.getD t 0==0)=false from by simpa using h];show(out.flatMap _).length=_;induction out with
 |nil=>simp
 |cons c out ih =>
  rw[ef,aL,ih,Aw,bL,bX,eM,gR]
theorem afk{k n f:Nat}(hf:f<=n):(lN (k+1) (n-f)).length<=(lN (k+2) n).length:=by
 have hm:f∈List.range (n+1):=cD.2 (by omega);show _<=((List.range (n+1)).flatMap fun f=>(lN (k+1) (n-f)).map fun t=>(f:Int)::t).length;obtain⟨a,b,e⟩:=List.append_of_mem hm;rw[e,db,ef,aL,aL,bL];omega
def vV(k n i:Nat):List (List Int):=(List.range i).flatMap fun f=>(lN (k+1) (n-f)).map fun t=>(f:Int)::t
theorem LH{k n i:Nat}:vV k n (i+1)=vV k n i++(lN (k+1) (n-i)).map fun t=>(i:Int)::t:=by
 unfold vV;rw[cp,db]; simp
theorem WX{k n:Nat}:vV k n (n+1)=lN (k+2) n:=rfl
theorem acB{k n i:Nat}: ∀ j,(vV k n i).length<=(vV k n (i+j)).length:=by
 intro j;induction j with
 |zero=>exact ba _
 |succ j ih=>rw[<- gt,LH,aL]; omega
def vW(p:aF)(r:Rule)(e:Elem):Int×List Elem:=bif decide (100<(zk p r e).length)||(zk p r e).any (fun x=> !(x.counts.all Ez)) then(4,[]) else(0,bG (zk p r e))
def aib(p:aF)(r:Rule)(e:Elem):Int×List Elem :=
 bif (sK p r e.value).length==0 then(0,[]) else bif decide (100<(BG r e.counts).length)||decide (100<(BG r e.counts).length*(sK p r e.value).length) then(4,[]) else
 bif (zk p r e).any (fun x=> !(x.counts.all Ez)) then(4,[]) else(0,bG (zk p r e))
theorem Zb:bG []=[]:=by
 have h: ∀ x,x ∉ bG []:=fun x hx=>by
  unfold bG at hx;rw[KJ] at hx;simp at hx
 exact List.eq_nil_iff_forall_not_mem.2 h
theorem aic{p:aF}{r:Rule}{e:Elem}:aib p r e=vW p r e:=by
 unfold aib vW;rw[ah9];cases hv:((sK p r e.value).length==0) with
 |true =>
  have h0:sK p r e.value=[]:=by simpa using hv
  have hz:zk p r e=[]:=by unfold zk; rw[h0]; rfl
  rw[hz,h0,Zb]; rfl
 |false =>
  have h0:(sK p r e.value).length≠0:=by simpa using hv
  have hm:(BG r e.counts).length<=(BG r e.counts).length*(sK p r e.value).length:=Nat.le_mul_of_pos_right _ (Nat.pos_of_ne_zero h0);have e1:(decide (100<(BG r e.counts).length)||decide (100<(BG r e.counts).length*(sK p r e.value).length))=decide (100<(BG r e.counts).length*(sK p r e.value).length):=by
   rw[cR,cY,aq,aq];omega
  show(bif _||_ then _ else _)=_;rw[e1];cases decide (100<(BG r e.counts).length*(sK p r e.value).length)<;>rfl
theorem aie{resp need:List Int}{out:List (List Int)}(h: ∀ t,need.getD t 0≠0->iQ resp t≠[]){t n:Nat}(ht:t<=n)(hb:100<(qV resp need out t).length):100<(qV resp need out n).length:=by
 obtain⟨k,rfl⟩:=Nat.exists_eq_add_of_le ht;exact cU hb (WW h k)
def divO(k n:Nat):Option (List (List Int)):=if(lN k n).length<=100 then some (lN k n) else none
theorem acC{k n f:Nat}(hf:f<=n)(h:divO (k+1) (n-f)=none):divO (k+2) n=none:=by
 unfold divO at h ⊢;have:=afk (k:=k) hf;split at h
 ·cases h
 ·rw[bB (by omega)]
theorem afl{k n i:Nat}(hi:i<=n+1)(h:100<(vV k n i).length):divO (k+2) n=none:=by
 unfold divO;obtain⟨j,hj⟩:=Nat.exists_eq_add_of_le hi;have:=acB (k:=k) (n:=n) (i:=i) j;rw[<- hj,WX] at this;rw[bB (by omega)]
end Go.Proofs.YtdloaandiobgdaaGreatDoor
