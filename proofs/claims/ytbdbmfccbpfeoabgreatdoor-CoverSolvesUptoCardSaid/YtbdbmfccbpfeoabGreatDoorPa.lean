/-
 All ways to divide a number among places: plain laws. No condition.
-/
import Derived.Test.YtbdbmfccbpfeoabGreatDoorFa
import Derived.Test.YtbdbmfccbpfeoabGreatDoorKa
import Derived.Test.YtbdbmfccbpfeoabGreatDoorRb
namespace Go.Proofs.YtbdbmfccbpfeoabGreatDoor
open Go.Ab Go.Proofs
set_option maxRecDepth 100000
def kN:Nat->Nat->List (List Int)
 |0,_=>[]
 |1,n=>[[(n:Int)]]
 |k+2,n=>(List.range (n+1)).flatMap fun f=>(kN (k+1) (n-f)).map fun t=>(f:Int)::t
def oD:List Int->List Int->List Int->List Int
 |c,x::xs,k::ks=>oD (aS c x k) xs ks
 |c,_,_=>c
def BQ:List Int->List Int->Nat->List (List Int)
 |_,[],_=>[]
 |c,[x],n=>[aS c x n]
 |c,x::y::r,n=>(List.range (n+1)).flatMap fun k:Nat=>BQ (aS c x k) (y::r) (n-k)
theorem wF: ∀ {l:List Int} {c:List Int} {n:Nat},BQ c l n=(kN l.length n).map (oD c l):=by
 intro l;induction l with
 |nil=>intro c n; rfl
 |cons x r ih =>
  intro c n;cases r with
  |nil=>rfl
  |cons y r =>
   show((List.range (n+1)).flatMap fun k:Nat=>BQ (aS c x k) (y::r) (n-k))=((List.range (n+1)).flatMap fun f=>(kN (r.length+1) (n-f)).map fun t=>(f:Int)::t).map (oD c (x::y::r));rw[List.map_flatMap]
   congr 1
   funext k;rw[ih,cT];rfl
theorem div_pos: ∀ {k n:Nat},0<k->kN k n≠[]:=by
 intro k;induction k with
 |zero=>intro n h; exact absurd h (Nat.lt_irrefl _)
 |succ k ih =>
  intro n _;cases k with
  |zero=>simp[kN]
  |succ k =>
   intro h;simp only[kN,List.flatMap_eq_nil_iff,List.map_eq_nil_iff] at h;exact ih (n:=n-0) (Nat.succ_pos _) (h 0 (by simp))
theorem H8: ∀ {k n:Nat} {s:List Int},s∈kN k n->s.length=k:=by
 intro k;induction k with
 |zero=>intro n s h; cases h
 |succ k ih =>
  intro n s h;cases k with
  |zero=>simp only[kN,bl] at h; subst h; rfl
  |succ k =>
   simp only[kN,ci,av] at h;obtain⟨f,_,t,ht,rfl⟩:=h;rw[bL,ih ht]
theorem QZ: ∀ {k n:Nat} {s:List Int},s∈kN k n->s.sum=n/\ ∀ x∈s,0<=x:=by
 intro k;induction k with
 |zero=>intro n s h; cases h
 |succ k ih =>
  intro n s h;cases k with
  |zero =>
   simp only[kN,bl] at h; subst h;exact⟨by simp,fun x hx=>by simp at hx; omega⟩
  |succ k =>
   simp only[kN,ci,av,cL] at h;obtain⟨f,hf,t,ht,rfl⟩:=h;obtain⟨h1,h2⟩:=ih ht;refine⟨by rw[eW,h1]; omega,fun x hx=>?_⟩;rcases br.1 hx with rfl|hx
   ·omega
   ·exact h2 x hx
theorem ZP: ∀ {k n:Nat},(kN k n).Nodup:=by
 intro k;induction k with
 |zero=>intro n; exact List.nodup_nil
 |succ k ih =>
  intro n;cases k with
  |zero=>simp[kN]
  |succ k =>
   simp only[kN];refine List.pairwise_flatMap.2 ⟨fun f _=>?_,?_⟩
   ·exact List.Pairwise.map _ (fun a b h q=>h (List.cons.inj q).2) ih
   ·refine List.Pairwise.imp ?_ List.nodup_range;intro a b hab s h1 u h2 e;rw[av] at h1 h2;obtain⟨t,_,rfl⟩:=h1;obtain⟨v,_,rfl⟩:=h2;have:=(List.cons.inj e).1;exact hab (by omega)
theorem Un{α β:Type}{f:α->List β}: ∀ {l:List α},(∀ x∈l,f x≠[])->l.length<=(l.flatMap f).length:=by
 intro l;induction l with
 |nil=>intro _; exact ab _
 |cons x r ih =>
  intro h;have h1:0<(f x).length:=f5.2 (h x (by simp));have h2:=ih fun y hy=>h y (by simp[hy])
  rw[eh,aM,bL]; omega
theorem ZQ{α β:Type}{f:α->List β}{m:Nat}{l:List α}(h: ∀ x∈l,f x≠[]):((l.take m).flatMap f).take m=(l.flatMap f).take m:=by
 rcases db l.length m with hl|hl
 ·rw[bB (gb hl)]
 ·have hlen:=Un (l:=l.take m) fun x hx=>h x (cU hx)
  rw[bE,en hl] at hlen;have e:l.flatMap f=(l.take m).flatMap f++(l.drop m).flatMap f:=by
   rw[<- cv,bt]
  rw[e,dm hlen]
def qK{α:Type}(m:Nat)(out more:List α):List α:=(out++more).take m
theorem Ji{α:Type}{m:Nat}{o a b:List α}:qK m (qK m o a) b=qK m o (a++b):=by
 unfold qK;rw[<- ax];generalize o++a=l;rcases db l.length m with h|h
 ·rw[bB (gb h)]
 ·rw[dm (by rw[bE]; omega),List.take_take,Nat.min_self,dm h]
theorem Nj(c:List Int)(i d j e:Int):aS (aS c i d) j e=aS (aS c j e) i d:=by
 unfold aS;generalize i.toNat=a;generalize j.toNat=b;by_cases h:a=b
 ·subst h;rw[List.set_set,List.set_set];rcases db a c.length with hl|hl
  ·have e1: ∀ v:Int,(c.set a v).getD a 0=v:=fun v=>by simp[hl]
   rw[e1,e1]
   congr 1
   omega
  ·rw[fT hl,fT hl]
 ·have e1: ∀ v:Int,(c.set a v).getD b 0=c.getD b 0:=fun v=>by rw[aR,cq h,<- aR]
  have e2: ∀ v:Int,(c.set b v).getD a 0=c.getD a 0:=fun v=>by rw[aR,cq (Ne.symm h),<- aR]
  rw[e1,e2,List.set_comm _ _ h]
theorem ZR: ∀ {xs ks:List Int} {c:List Int} {i d:Int},oD (aS c i d) xs ks=aS (oD c xs ks) i d:=by
 intro xs;induction xs with
 |nil=>intro ks c i d; rfl
 |cons x xs ih =>
  intro ks c i d;cases ks with
  |nil=>rfl
  |cons k ks =>
   show oD (aS (aS c i d) x k) xs ks=aS (oD (aS c x k) xs ks) i d;rw[Nj,ih]
def iC(resp:List Int)(t:Nat):List Int:=((List.range resp.length).filter fun x=>resp.getD x 0==(t:Int)).map fun x:Nat=>(x:Int)
def yK(resp need:List Int)(out:List (List Int))(t:Nat):List (List Int):=bif need.getD t 0==0 then out else out.flatMap fun c=>BQ c (iC resp t) (need.getD t 0).toNat
def lF(resp need:List Int)(out:List (List Int))(n:Nat):List (List Int):=(List.range n).foldl (yK resp need) out
theorem uP{resp need:List Int}{out:List (List Int)}{n:Nat}:lF resp need out (n+1)=yK resp need (lF resp need out n) n:=by
 unfold lF;rw[ck,gS]; rfl
theorem aeN{resp need:List Int}{out:List (List Int)}{t:Nat}{i d:Int}:yK resp need (out.map fun c=>aS c i d) t=(yK resp need out t).map fun c=>aS c i d:=by
 unfold yK;cases need.getD t 0==0 with
 |true=>rfl
 |false =>
  show(out.map fun c=>aS c i d).flatMap _=(out.flatMap _).map _;rw[List.flatMap_map,List.map_flatMap]
  congr 1
  funext c;rw[wF,wF,cT];refine cM fun s _=>?_
  exact ZR
theorem Yc{resp need:List Int}{out:List (List Int)}{n:Nat}{i d:Int}:lF resp need (out.map fun c=>aS c i d) n=(lF resp need out n).map fun c=>aS c i d:=by
 induction n with
 |zero=>rfl
 |succ n ih=>rw[uP,uP,ih,aeN]
theorem aeO{resp need:List Int}{out:List (List Int)}{t m:Nat}(h:need.getD t 0≠0->iC resp t≠[]):(yK resp need (out.take m) t).take m=(yK resp need out t).take m:=by
 unfold yK;cases hb:(need.getD t 0==0) with
 |true=>show(out.take m).take m=out.take m; rw[List.take_take,Nat.min_self]
 |false =>
  have hf:=h (by simpa using hb);refine ZQ fun c _=>?_
  rw[wF];intro e;rw[List.map_eq_nil_iff] at e;exact div_pos (f5.2 hf) e
theorem acv{resp need:List Int}{out:List (List Int)}{t:Nat}(h:need.getD t 0≠0->iC resp t≠[]):out.length<=(yK resp need out t).length:=by
 unfold yK;cases hb:(need.getD t 0==0) with
 |true=>exact ba _
 |false =>
  have hf:=h (by simpa using hb);refine Un fun c _=>?_
  rw[wF];intro e;rw[List.map_eq_nil_iff] at e;exact div_pos (f5.2 hf) e
theorem iY(c:List Int)(i d:Int):(aS c i d).length=c.length:=by simp[aS]
theorem mZ(c:List Int)(i d:Int)(j:Nat):(aS c i d).getD j 0=if j=i.toNat/\j<c.length then c.getD j 0+d else c.getD j 0:=by
 unfold aS;generalize i.toNat=a;by_cases h:j=a
 ·subst h;by_cases hl:j<c.length
  ·rw[bk ⟨rfl,hl⟩]; simp[hl]
  ·rw[bX (fun q=>hl q.2),fT (by omega)]
 ·rw[bX (fun q=>h q.1),aR,cq (Ne.symm h),<- aR]
theorem Jj: ∀ (c:List Int) (i d:Int),i.toNat<c.length->(aS c i d).sum=c.sum+d:=by
 intro c i d;unfold aS;generalize i.toNat=a;induction c generalizing a with
 |nil=>intro h; exact absurd h (Nat.not_lt_zero _)
 |cons x r ih =>
  intro h;cases a with
  |zero=>simp only[fS,eW,f7]; omega
  |succ a =>
   have:=ih a (by simpa using h);simp only[List.set_cons_succ,eW,List.getD_cons_succ]; omega
theorem Uo: ∀ {xs ks:List Int} {c:List Int},(oD c xs ks).length=c.length:=by
 intro xs;induction xs with
 |nil=>intro ks c; rfl
 |cons x xs ih =>
  intro ks c;cases ks with
  |nil=>rfl
  |cons k ks=>show(oD (aS c x k) xs ks).length=_; rw[ih,iY]
theorem Dy: ∀ {xs ks:List Int} {c:List Int} {j:Nat},(∀ x∈xs,x.toNat≠j)->(oD c xs ks).getD j 0=c.getD j 0:=by
 intro xs;induction xs with
 |nil=>intro ks c j _; rfl
 |cons x xs ih =>
  intro ks c j h;cases ks with
  |nil=>rfl
  |cons k ks =>
   show(oD (aS c x k) xs ks).getD j 0=_;rw[ih fun y hy=>h y (by simp[hy]),mZ,bX fun q=>h x (by simp) q.1.symm]
theorem acw: ∀ {xs ks:List Int} {c:List Int},xs.length=ks.length->(∀ x∈xs,x.toNat<c.length)->(oD c xs ks).sum=c.sum+ks.sum:=by
 intro xs;induction xs with
 |nil =>
  intro ks c h _;cases ks with
  |nil=>show c.sum=c.sum+0; omega
  |cons k ks=>simp at h
 |cons x xs ih =>
  intro ks c h hx;cases ks with
  |nil=>simp at h
  |cons k ks =>
   show(oD (aS c x k) xs ks).sum=_;rw[ih (by simpa using h) fun y hy=>by rw[iY]; exact hx y (by simp[hy]),Jj c x k (hx x (by simp)),eW]; omega
def Dst(xs:List Int):Prop:=xs.Pairwise fun a b=>a.toNat≠b.toNat
theorem Ur: ∀ {xs ks ks':List Int} {c:List Int},Dst xs->(∀ x∈xs,x.toNat<c.length)->xs.length=ks.length->xs.length=ks'.length->oD c xs ks=oD c xs ks'->ks=ks':=by
 intro xs;induction xs with
 |nil =>
  intro ks ks' c _ _ h1 h2 _;rw[fy.1 h1.symm,fy.1 h2.symm]
 |cons x xs ih =>
  intro ks ks' c hd hx h1 h2 e;cases ks with
  |nil=>simp at h1
  |cons k ks =>
   cases ks' with
   |nil=>simp at h2
   |cons k' ks' =>
    have hd':=dj.1 hd;have hne: ∀ y∈xs,y.toNat≠x.toNat:=fun y hy=>Ne.symm (hd'.1 y hy)
    have hl:=hx x (by simp);have e:oD (aS c x k) xs ks=oD (aS c x k') xs ks':=e;have e1:=dt (fun l=>l.getD x.toNat 0) e;rw[Dy hne,Dy hne,mZ,mZ,bk ⟨rfl,hl⟩,bk ⟨rfl,hl⟩] at e1;have hk:k=k':=by omega
    subst hk;rw[ih hd'.2 (fun y hy=>by rw[iY]; exact hx y (by simp[hy])) (by simpa using h1) (by simpa using h2) e]
theorem ZT{xs ks ks':List Int}{c c':List Int}(hd:Dst xs)(hx: ∀ x∈xs,x.toNat<c.length)(hl:c.length=c'.length)(h1:xs.length=ks.length)(h2:xs.length=ks'.length)(ha: ∀ x∈xs,c.getD x.toNat 0=c'.getD x.toNat 0)(e:oD c xs ks=oD c' xs ks'):c=c'/\ks=ks':=by
 have hc:c=c':=by
  apply de hl;intro j j1 j2;by_cases hj: ∃ x∈xs,x.toNat=j
  ·obtain⟨x,hx1,rfl⟩:=hj;have:=ha x hx1;simpa [j1,j2] using this
  ·have hj': ∀ x∈xs,x.toNat≠j:=fun x hx1 q=>hj ⟨x,hx1,q⟩
   have:=dt (fun l=>l.getD j 0) e;rw[Dy hj',Dy hj'] at this;simpa [j1,j2] using this
 subst hc;exact⟨rfl,Ur hd hx h1 h2 e⟩
theorem Pz{resp:List Int}{t:Nat}:Dst (iC resp t):=by
 unfold Dst iC;rw[ee];refine List.Pairwise.filter _ ?_;exact List.pairwise_lt_range.imp fun h=>by omega
theorem wV{resp:List Int}{t:Nat}{x:Int}:x∈iC resp t↔ ∃ k:Nat,k<resp.length/\resp.getD k 0=(t:Int)/\x=k:=by
 unfold iC;rw[av];constructor
 ·rintro⟨k,h,rfl⟩;obtain⟨h1,h2⟩:=eQ.1 h;exact⟨k,cL.1 h1,by simpa using h2,rfl⟩
 ·rintro⟨k,h1,h2,rfl⟩;exact⟨k,eQ.2 ⟨cL.2 h1,by simpa using h2⟩,rfl⟩
structure aeP(resp need b:List Int)(n:Nat)(out:List (List Int)):Prop where
 nd:out.Nodup
 len: ∀ c∈out,c.length=resp.length
 old: ∀ c∈out,∀ j,j<resp.length->(n:Int)<=resp.getD j 0->c.getD j 0=b.getD j 0
 sum: ∀ c∈out,c.sum=b.sum+(need.take n).sum
theorem aeP.next{resp need b:List Int}{n:Nat}{out:List (List Int)}(h:aeP resp need b n out)(hn:n<need.length)(h0:0<=need.getD n 0):aeP resp need b (n+1) (yK resp need out n):=by
 have hs:(need.take (n+1)).sum=(need.take n).sum+need.getD n 0:=by
  rw[cR,bN hn,List.sum_append,show need.getD n 0=need[n] from by simp[hn]];simp
 unfold yK;cases hb:(need.getD n 0==0) with
 |true =>
  have hz:need.getD n 0=0:=by simpa using hb
  refine⟨h.nd,h.len,fun c hc j hj hr=>h.old c hc j hj (by omega),fun c hc=>?_⟩;rw[hs,hz,h.sum c hc]; omega
 |false =>
  have hin: ∀ c∈out,∀ x∈iC resp n,x.toNat<c.length:=fun c hc x hx=>by
   obtain⟨k,hk,_,rfl⟩:=wV.1 hx;rw[h.len c hc,ap]; exact hk
  have key: ∀ c∈out,∀ d∈BQ c (iC resp n) (need.getD n 0).toNat,∃ s∈kN (iC resp n).length (need.getD n 0).toNat,d=oD c (iC resp n) s/\(iC resp n).length=s.length:=fun c _ d hd=>by
   rw[wF,av] at hd;obtain⟨s,hs,rfl⟩:=hd;exact⟨s,hs,rfl,(H8 hs).symm⟩
  refine⟨?_,fun d hd=>?_,fun d hd j hj hr=>?_,fun d hd=>?_⟩
  ·refine List.pairwise_flatMap.2 ⟨fun c hc=>?_,?_⟩
   ·rw[wF];have hn:(kN (iC resp n).length (need.getD n 0).toNat).Nodup:=ZP;rw[ee];refine hn.imp_of_mem fun {s u} hs hu hne e=>hne ?_
    exact Ur Pz (hin c hc) (H8 hs).symm (H8 hu).symm e
   ·refine List.Pairwise.imp_of_mem (fun {c c'} hc hc' hne d hd d' hd' e=>?_) h.nd;obtain⟨s,_,rfl,l1⟩:=key c hc d hd;obtain⟨s',_,rfl,l2⟩:=key c' hc' d' hd';refine hne (ZT Pz (hin c hc) (by rw[h.len c hc,h.len c' hc']) l1 l2 (fun x hx=>?_) e).1;obtain⟨k,hk,hr,rfl⟩:=wV.1 hx;rw[ap,h.old c hc k hk (by omega),h.old c' hc' k hk (by omega)]
  ·obtain⟨c,hc,hd⟩:=ci.1 hd;obtain⟨s,_,rfl,_⟩:=key c hc d hd;rw[Uo,h.len c hc]
  ·obtain⟨c,hc,hd⟩:=ci.1 hd;obtain⟨s,_,rfl,_⟩:=key c hc d hd;rw[Dy (fun x hx=>?_),h.old c hc j hj (by omega)];obtain⟨k,hk,hr',rfl⟩:=wV.1 hx;rw[ap];rintro rfl;omega
  ·obtain⟨c,hc,hd⟩:=ci.1 hd;obtain⟨s,hs',rfl,l1⟩:=key c hc d hd;rw[acw l1 (hin c hc),h.sum c hc,(QZ hs').1,hs,Int.toNat_of_nonneg h0]; omega
theorem Ye{resp need b:List Int}{n:Nat}(hb:b.length=resp.length)(hn:n<=need.length)(h0: ∀ i,0<=need.getD i 0):aeP resp need b n (lF resp need [b] n):=by
 induction n with
 |zero =>
  refine⟨by simp[lF],fun c hc=>?_,fun c hc j _ _=>?_,fun c hc=>?_⟩ <;>
  ·have:c=b:=by simpa [lF] using hc
   subst this;first|exact hb|rfl|simp
 |succ n ih =>
  rw[uP];exact(ih (by omega)).next (by omega) (h0 n)
def kM(p:aI)(r:Rule)(v:Int):List Int :=
 bif decide (0<=r.write)&&r.write !=v then [] else bif decide (r.write<0)&&(decide (0<=r.read)&&r.read !=v) then [] else
 bif decide (0<=r.read) then [r.read] else bif decide (r.write<0) then [v] else(List.range (max 1 p.values.length)).map fun x:Nat=>(x:Int)
def cO(c:List Int)(i:Int):List Int:=c.set i.toNat (max (c.getD i.toNat 0-1) 0)
def mg(resp need:List Int):Bool:=(List.range need.length).any fun t=>decide (0<need.getD t 0)&& !(JQ resp t)
def zZ(r:Rule)(c:List Int):List (List Int) :=
 let rest:=cO c r.to
 bif r.kind==1 then(bif qZ r rest then [rest] else r.ex.map fun x=>aS rest x 1) else
 bif r.kind==2 then [aS (cO rest r.Ap) r.jo 1] else
 bif r.kind==3 then(bif mg r.response rest then [] else lF r.response rest [List.replicate rest.length 0] rest.length) else [rest]
def uq(r:Rule)(c:List Int):List (List Int):=(zZ r c).map fun l=>aS l r.fr 1
def pG(p:aI)(r:Rule)(e:Elem):List Elem:=(kM p r e.value).flatMap fun v=>(uq r e.counts).map fun c=>⟨v,c⟩
theorem PD{p:aI}{r:Rule}{v:Int}:(kM p r v).Nodup:=by
 unfold kM;cases decide (0<=r.write)&&r.write !=v
 ·cases decide (r.write<0)&&(decide (0<=r.read)&&r.read !=v)
  ·cases decide (0<=r.read)
   ·cases decide (r.write<0)
    ·show((List.range _).map _).Nodup;refine List.Pairwise.map _ (fun a b h q=>h ?_) List.nodup_range;omega
    ·simp
   ·simp
  ·simp
 ·simp
theorem dP{c:List Int}{i:Int}:(cO c i).length=c.length:=by simp[cO]
theorem Dz{c:List Int}{i:Int}(h: ∀ j,0<=c.getD j 0)(j:Nat):0<=(cO c i).getD j 0:=by
 unfold cO;generalize i.toNat=a;by_cases hj:j=a
 ·subst hj;by_cases hl:j<c.length
  ·have e:(c.set j (max (c.getD j 0-1) 0)).getD j 0=max (c.getD j 0-1) 0:=by simp[hl]
   rw[e]; omega
  ·rw[fT (by omega)]; exact h j
 ·rw[aR,cq (Ne.symm hj),<- aR]; exact h j
theorem PE(c:List Int)(i d:Int):aS (aS c i d) i (-d)=c:=by
 unfold aS;generalize i.toNat=a;rw[List.set_set];by_cases hl:a<c.length
 ·have e:(c.set a (c.getD a 0+d)).getD a 0=c.getD a 0+d:=by simp[hl]
  rw[e];apply de (by simp);intro j h1 h2;rw[List.getElem_set];split
  ·rename_i q; subst q; simp[hl]; omega
  ·rfl
 ·rw[fT (by omega)]
theorem ZU{a b:List Int}{i d:Int}(h:aS a i d=aS b i d):a=b:=by
 rw[<- PE a i d,h,PE]
structure Even(n:Nat)(l:List (List Int)):Prop where
 nd:l.Nodup
 len: ∀ c∈l,c.length=n
 sum: ∃ s:Int,∀ c∈l,c.sum=s
theorem Even.one{n:Nat}{c:List Int}(h:c.length=n):Even n [c]:=⟨by simp,fun d hd=>by simp at hd; subst hd; exact h,c.sum,fun d hd=>by simp at hd; subst hd; rfl⟩
theorem acy{r:Rule}{c:List Int}(hp:oU c.length r)(hx:r.ex.Nodup)(h0: ∀ j,0<=c.getD j 0):Even c.length (zZ r c):=by
 have hl:(cO c r.to).length=c.length:=dP;unfold zZ;simp only;cases hk1:(r.kind==1) with
 |true =>
  cases qZ r (cO c r.to) with
  |true=>exact .one hl
  |false =>
   have key: ∀ x∈r.ex,x.toNat<(cO c r.to).length/\0<=x:=fun x q=>by have:=hp.exs x q; omega
   refine⟨?_,fun d hd=>?_,(cO c r.to).sum+1,fun d hd=>?_⟩
   ·show(r.ex.map _).Nodup;rw[List.Nodup,ee];refine List.Pairwise.imp_of_mem (fun {x y} h1 h2 hne e=>hne ?_) hx;have e1:=dt (fun l=>l.getD x.toNat 0) e;have k1:=key x h1;have k2:=key y h2;replace e1:(aS (cO c r.to) x 1).getD x.toNat 0=(aS (cO c r.to) y 1).getD x.toNat 0:=e1;rw[mZ,mZ,bk ⟨rfl,k1.1⟩] at e1;split at e1
    ·omega
    ·omega
   ·obtain⟨x,_,rfl⟩:=av.1 hd;rw[iY,hl]
   ·obtain⟨x,hx1,rfl⟩:=av.1 hd;exact Jj _ _ _ (key x hx1).1
 |false =>
  cases hk2:(r.kind==2) with
  |true=>exact .one (by rw[iY,dP,hl])
  |false =>
   cases hk3:(r.kind==3) with
   |false=>exact .one hl
   |true =>
    cases mg r.response (cO c r.to) with
    |true =>
     show Even c.length [];exact⟨List.nodup_nil,(fun d hd=>by cases hd),0,fun d hd=>by cases hd⟩
    |false =>
     have hr:=(hp.rsp (by simpa using hk3)).1;have:=Ye (resp:=r.response) (need:=cO c r.to) (b:=List.replicate (cO c r.to).length 0) (by rw[List.length_replicate,hl,hr]) (ba _) (Dz h0);exact⟨this.nd,fun d hd=>by rw[this.len d hd,hr],_,this.sum⟩
theorem Even.add{n:Nat}{l:List (List Int)}{i d:Int}(h:Even n l)(hi:i.toNat<n):Even n (l.map fun c=>aS c i d):=by
 obtain⟨s,hs⟩:=h.sum;refine⟨?_,fun e he=>?_,s+d,fun e he=>?_⟩
 ·rw[List.Nodup,ee];exact h.nd.imp fun {a b} hne e=>hne (ZU e)
 ·obtain⟨c,hc,rfl⟩:=av.1 he;rw[iY,h.len c hc]
 ·obtain⟨c,hc,rfl⟩:=av.1 he;rw[Jj _ _ _ (by rw[h.len c hc]; exact hi),hs c hc]
theorem PG{r:Rule}{c:List Int}(hp:oU c.length r)(hx:r.ex.Nodup)(h0: ∀ j,0<=c.getD j 0):Even c.length (uq r c) :=
 (acy hp hx h0).add (by have:=hp.src; omega)
theorem PI: ∀ {a b:List Int},ny a b=true->a.sum<=b.sum/\(a.sum=b.sum->a=b):=by
 intro a;induction a with
 |nil =>
  intro b h;cases b with
  |nil=>exact⟨gk _,fun _=>rfl⟩
  |cons y b=>simp[ny] at h
 |cons x a ih =>
  intro b h;cases b with
  |nil=>simp[ny] at h
  |cons y b =>
   simp only[ny,aD,ag] at h;obtain⟨h1,h2⟩:=ih h.2;rw[eW,eW];refine⟨by omega,fun e=>?_⟩;have hs:a.sum=b.sum:=by omega
   have hx:x=y:=by omega
   rw[hx,h2 hs]
theorem Yf: ∀ {l u:List Elem},l.Nodup->(∀ x∈l,x∈u)->l.length<=u.length:=by
 intro l;induction l with
 |nil=>intro u _ _; exact ab _
 |cons a l ih =>
  intro u hn hs;obtain⟨h1,h2⟩:=List.nodup_cons.1 hn;have ha:=hs a (by simp);have:=ih (u:=u.erase a) h2 fun x hx=>(List.mem_erase_of_ne (by rintro rfl; exact h1 hx)).2 (hs x (dy _ hx))
  rw[List.length_erase_of_mem ha] at this;have:=List.length_pos_of_mem ha;rw[bL]; omega
theorem ZV{l:List Elem}(h:SS l):l.Nodup:=by
 unfold SS at h;refine h.imp fun {a b} hab e=>?_
 have h0:gY a b=0:=by rw[jO]; exact e
 omega
theorem Us{l:List Elem}(ha: ∀ x∈l,∀ y∈l,kL y x=true->y=x):aK l=rO l:=by
 unfold aK;rw[List.filter_eq_self.2 fun x hx=>?_];unfold vY;rw[bo,co];intro y hy h;obtain⟨h1,h2⟩:=nJ.1 h;exact h2 (ha x hx y hy h1)
theorem Ut{l:List Elem}(hn:l.Nodup):(rO l).length=l.length :=
 ep (Yf (ZV (Lm l)) fun x hx=>(wH l x).1 hx) (Yf hn fun x hx=>(wH l x).2 hx)
theorem KG{p:aI}{r:Rule}{e x:Elem}:x∈pG p r e↔x.value∈kM p r e.value/\x.counts∈uq r e.counts:=by
 unfold pG;rw[ci];constructor
 ·rintro⟨v,hv,hx⟩;obtain⟨c,hc,rfl⟩:=av.1 hx;exact⟨hv,hc⟩
 ·rintro⟨hv,hc⟩;exact⟨_,hv,av.2 ⟨_,hc,rfl⟩⟩
theorem ZW{p:aI}{r:Rule}{e:Elem}(h:(uq r e.counts).Nodup):(pG p r e).Nodup:=by
 unfold pG;refine List.pairwise_flatMap.2 ⟨fun v _=>?_,?_⟩
 ·rw[ee];exact h.imp fun {a b} hne q=>hne (dt Elem.counts q)
 ·refine(PD (p:=p) (r:=r) (v:=e.value)).imp fun {v u} hne x hx y hy q=>hne ?_
  obtain⟨c,_,rfl⟩:=av.1 hx;obtain⟨d,_,rfl⟩:=av.1 hy;exact dt Elem.value q
theorem Yg{p:aI}{r:Rule}{e:Elem}(hp:oU e.counts.length r)(hx:r.ex.Nodup)(h0: ∀ j,0<=e.counts.getD j 0):aK (pG p r e)=rO (pG p r e)/\(aK (pG p r e)).length=(pG p r e).length:=by
 have hc:=PG hp hx h0;have h:aK (pG p r e)=rO (pG p r e):=by
  refine Us fun x hx y hy hle=>?_
  obtain⟨s,hs⟩:=hc.sum;have e1:=hs _ (KG.1 hx).2;have e2:=hs _ (KG.1 hy).2;unfold kL at hle;rw[aD,bv] at hle;have:=(PI hle.2).2 (by rw[e1,e2]);cases x; cases y;simp only at hle this;rw[hle.1,this]
 exact⟨h,by rw[h,Ut (ZW hc.nd)]⟩
theorem Yh{p:aI}{r:Rule}{e:Elem}:(pG p r e).length=(uq r e.counts).length*(kM p r e.value).length:=by
 unfold pG;generalize kM p r e.value=l;induction l with
 |nil=>rfl
 |cons v l ih=>rw[eh,aM,ih,bc,bL,Nat.mul_succ,gF]
theorem Nk(c:List Int)(i:Int)(j:Nat):(cO c i).getD j 0=if j=i.toNat/\j<c.length then max (c.getD j 0-1) 0 else c.getD j 0:=by
 unfold cO;generalize i.toNat=a;by_cases h:j=a
 ·subst h;by_cases hl:j<c.length
  ·rw[bk ⟨rfl,hl⟩]; simp[hl]
  ·rw[bX (fun q=>hl q.2),fT (by omega)]
 ·rw[bX (fun q=>h q.1),aR,cq (Ne.symm h),<- aR]
def DC(r:Rule)(x:Nat):Int:=(if(x:Int)=r.fr then 1 else 0)+(if r.kind=2/\(x:Int)=r.jo then 1 else 0)
def JH(r:Rule)(x:Nat):Int:=(if(x:Int)=r.to then 1 else 0)+(if r.kind=2/\(x:Int)=r.Ap then 1 else 0)
def ku(r:Rule)(c:List Int):List Int:=(List.range c.length).map fun x:Nat=>max (DC r x) (c.getD x 0-JH r x+DC r x)
theorem Uu{l l':List Int}(h:l.length=l'.length)(H: ∀ i,i<l.length->l.getD i 0=l'.getD i 0):l=l':=by
 apply de h;intro i h1 h2;have:=H i h1;simpa [h1,h2] using this
theorem Uw{r:Rule}{c:List Int}{j:Nat}(h:j<c.length):(ku r c).getD j 0=max (DC r j) (c.getD j 0-JH r j+DC r j):=by simp[ku,h]
theorem DF{r:Rule}{c:List Int}:(ku r c).length=c.length:=by simp[ku]
theorem FC{r:Rule}{c:List Int}(hp:oU c.length r)(h0: ∀ j,0<=c.getD j 0)(hk:r.kind≠2):ku r c=aS (cO c r.to) r.fr 1:=by
 refine Uu (by rw[DF,iY,dP]) fun j hj=>?_
 rw[DF] at hj;have:=h0 j;have ea:((j:Int)=r.fr)=(j=r.fr.toNat):=propext (by have:=hp.src; omega);have eb:((j:Int)=r.to)=(j=r.to.toNat):=propext (by have:=hp.dst; omega);rw[Uw hj,mZ,Nk,dP];unfold DC JH;rcases fb (j=r.fr.toNat) with ta|ta<;>rcases fb (j=r.to.toNat) with tb|tb <;>
 ·simp only[ea,eb,ta,tb,eq_true hj,eq_false hk,ga,false_and,cj,cQ];omega
theorem ZX{r:Rule}{c:List Int}(hp:oU c.length r)(h0: ∀ j,0<=c.getD j 0)(hk:r.kind=2):ku r c=aS (aS (cO (cO c r.to) r.Ap) r.jo 1) r.fr 1:=by
 refine Uu (by rw[DF,iY,iY,dP,dP]) fun j hj=>?_
 rw[DF] at hj;have:=h0 j;have ea:((j:Int)=r.fr)=(j=r.fr.toNat):=propext (by have:=hp.src; omega);have eb:((j:Int)=r.to)=(j=r.to.toNat):=propext (by have:=hp.dst; omega);have ec:((j:Int)=r.jo)=(j=r.jo.toNat):=propext (by have:=hp.ag9; omega);have ed:((j:Int)=r.Ap)=(j=r.Ap.toNat):=propext (by have:=hp.aha; omega);rw[Uw hj,mZ,mZ,Nk,Nk,iY,dP,dP];unfold DC JH;rcases fb (j=r.fr.toNat) with ta|ta<;>rcases fb (j=r.to.toNat) with tb|tb<;>rcases fb (j=r.jo.toNat) with tc|tc<;>rcases fb (j=r.Ap.toNat) with td|td <;>
 ·simp only[ea,eb,ec,ed,ta,tb,tc,td,eq_true hj,eq_true hk,ga,false_and,and_self,cj,cQ];omega
def cntF(r:Rule)(c:List Int):List (List Int) :=
 bif r.kind==1 then(bif qZ r (cO c r.to) then [ku r c] else r.ex.map fun x=>aS (ku r c) x 1) else
 bif r.kind==2 then [ku r c] else
 bif r.kind==3 then(bif mg r.response (cO c r.to) then [] else lF r.response (cO c r.to) [aS (List.replicate c.length 0) r.fr 1] c.length) else [ku r c]
theorem aeQ{r:Rule}{c:List Int}(hp:oU c.length r)(h0: ∀ j,0<=c.getD j 0):cntF r c=uq r c:=by
 unfold cntF uq zZ;simp only;cases hk1:(r.kind==1) with
 |true =>
  have hb:=FC hp h0 (by have:r.kind=1:=(by simpa using hk1); omega);rw[hb];cases qZ r (cO c r.to) with
  |true=>rfl
  |false =>
   show r.ex.map _=(r.ex.map _).map _;rw[cT];refine cM fun x _=>?_
   exact Nj _ _ _ _ _
 |false =>
  cases hk2:(r.kind==2) with
  |true =>
   rw[ZX hp h0 (by simpa using hk2)]; rfl
  |false =>
   have hb:=FC hp h0 (by simpa using hk2);cases hk3:(r.kind==3) with
   |false=>rw[hb]; rfl
   |true =>
    cases mg r.response (cO c r.to) with
    |true=>rfl
    |false =>
     show lF _ _ [aS (List.replicate c.length 0) r.fr 1] c.length=(lF _ _ _ _).map _;rw[<- Yc,dP]; rfl
theorem Bc{resp need:List Int}(h:mg resp need=false)(h0: ∀ j,0<=need.getD j 0)(t:Nat)(hn:need.getD t 0≠0):iC resp t≠[]:=by
 have ht:t<need.length:=by
  rcases db t need.length with q|q
  ·exact q
  ·exact absurd (by simp[List.getD_eq_getElem?_getD,List.getElem?_eq_none q]) hn
 unfold mg at h;rw[co] at h;have:=h t (cL.2 ht);have hp:0<need.getD t 0:=by have:=h0 t; omega
 rw[cJ hp,cw,bo,Bool.not_eq_false] at this;have hm:=J4.1 this;obtain⟨k,hk,he⟩:=eI hm;exact List.ne_nil_of_mem (wV.2 ⟨k,hk,by simp[hk,he],rfl⟩)
def Ew(m:Nat)(resp need:List Int)(out:List (List Int))(n:Nat):List (List Int):=(List.range n).foldl (fun o t=>(yK resp need o t).take m) out
theorem Jk{m:Nat}{resp need:List Int}{out:List (List Int)}{n:Nat}:Ew m resp need out (n+1)=(yK resp need (Ew m resp need out n) n).take m:=by
 unfold Ew;rw[ck,gS]; rfl
theorem KI{m:Nat}{resp need:List Int}{out:List (List Int)}(ho:out.length<=m)(h: ∀ t,need.getD t 0≠0->iC resp t≠[]): ∀ n,Ew m resp need out n=(lF resp need out n).take m:=by
 intro n;induction n with
 |zero=>exact(bB ho).symm
 |succ n ih=>rw[Jk,uP,ih,aeO (h n)]
theorem Ux{resp need:List Int}{out:List (List Int)}(h: ∀ t,need.getD t 0≠0->iC resp t≠[]){n:Nat}: ∀ k,(lF resp need out n).length<=(lF resp need out (n+k)).length:=by
 intro k;induction k with
 |zero=>exact ba _
 |succ k ih =>
  rw[<- gP,uP];exact ez ih (acv (h _))
theorem aeR{resp need:List Int}{out:List (List Int)}{t:Nat}(h:need.getD t 0≠0):(yK resp need out t).length=out.length*(kN (iC resp t).length (need.getD t 0).toNat).length:=by
 unfold yK;rw[show(need.getD t 0==0)=false from by simpa using h];show(out.flatMap _).length=_;induction out with
 |nil=>simp
 |cons c out ih =>
  rw[eh,aM,ih,wF,bc,bL,eK,gF]
theorem acz{k n f:Nat}(hf:f<=n):(kN (k+1) (n-f)).length<=(kN (k+2) n).length:=by
 have hm:f∈List.range (n+1):=cL.2 (by omega);show _<=((List.range (n+1)).flatMap fun f=>(kN (k+1) (n-f)).map fun t=>(f:Int)::t).length;obtain⟨a,b,e⟩:=List.append_of_mem hm;rw[e,cv,eh,aM,aM,bc];omega
def sH(k n i:Nat):List (List Int):=(List.range i).flatMap fun f=>(kN (k+1) (n-f)).map fun t=>(f:Int)::t
theorem Jl{k n i:Nat}:sH k n (i+1)=sH k n i++(kN (k+1) (n-i)).map fun t=>(i:Int)::t:=by
 unfold sH;rw[ck,cv]; simp
theorem Uy{k n:Nat}:sH k n (n+1)=kN (k+2) n:=rfl
theorem ZY{k n i:Nat}: ∀ j,(sH k n i).length<=(sH k n (i+j)).length:=by
 intro j;induction j with
 |zero=>exact ba _
 |succ j ih=>rw[<- gP,Jl,aM]; omega
def pO(p:aI)(r:Rule)(e:Elem):Int×List Elem:=bif decide (100<(pG p r e).length)||(pG p r e).any (fun x=> !(x.counts.all zu)) then(4,[]) else(0,aK (pG p r e))
def DI(r:Rule)(c:List Int):List (List Int) :=
 bif r.kind==3 then(bif mg r.response (cO c r.to) then [] else Ew 101 r.response (cO c r.to) [aS (List.replicate c.length 0) r.fr 1] c.length) else cntF r c
theorem Yi{r:Rule}{c:List Int}(hp:oU c.length r)(h0: ∀ j,0<=c.getD j 0):DI r c=uq r c\/r.kind=3/\DI r c=(uq r c).take 101:=by
 have hc:=aeQ hp h0;rw[<- hc];unfold DI;cases hk:(r.kind==3) with
 |false=>exact .inl rfl
 |true =>
  have hk3:r.kind=3:=by simpa using hk
  right;refine⟨hk3,?_⟩;unfold cntF;rw[show(r.kind==1)=false by simp[hk3],show(r.kind==2)=false by simp[hk3],hk];cases hs:mg r.response (cO c r.to) with
  |true=>rfl
  |false=>exact KI (show 1<=101 by decide) (Bc hs (Dz h0)) _
def Og(p:aI)(r:Rule)(e:Elem):List Elem:=(kM p r e.value).flatMap fun v=>(DI r e.counts).map fun c=>⟨v,c⟩
def WX(p:aI)(r:Rule)(e:Elem):Int×List Elem:=bif decide (100<(aK (Og p r e)).length)||(aK (Og p r e)).any (lI p) then(4,[]) else(0,aK (Og p r e))
theorem Yj{p:aI}{r:Rule}{e:Elem}(hp:oU e.counts.length r)(hx:r.ex.Nodup)(h0: ∀ j,0<=e.counts.getD j 0){x:Elem}:x∈aK (pG p r e)↔x∈pG p r e:=by
 rw[(Yg hp hx h0).1,wH]
theorem Uz{vs:List Int}{cs:List (List Int)}{x:Elem}:x∈(vs.flatMap fun v=>cs.map fun c=>(⟨v,c⟩:Elem))↔x.value∈vs/\x.counts∈cs:=by
 rw[ci];constructor
 ·rintro⟨v,hv,hx⟩;obtain⟨c,hc,rfl⟩:=av.1 hx;exact⟨hv,hc⟩
 ·rintro⟨hv,hc⟩;exact⟨_,hv,av.2 ⟨_,hc,rfl⟩⟩
theorem acA{vs:List Int}{cs:List (List Int)}:(vs.flatMap fun v=>cs.map fun c=>(⟨v,c⟩:Elem)).length=cs.length*vs.length:=by
 induction vs with
 |nil=>rfl
 |cons v l ih=>rw[eh,aM,ih,bc,bL,Nat.mul_succ,gF]
theorem acB{n:Nat}{vs:List Int}{cs:List (List Int)}(hv:vs.Nodup)(hc:Even n cs):aK (vs.flatMap fun v=>cs.map fun c=>(⟨v,c⟩:Elem))=rO (vs.flatMap fun v=>cs.map fun c=>(⟨v,c⟩:Elem))/\(aK (vs.flatMap fun v=>cs.map fun c=>(⟨v,c⟩:Elem))).length=cs.length*vs.length:=by
 have hn:(vs.flatMap fun v=>cs.map fun c=>(⟨v,c⟩:Elem)).Nodup:=by
  refine List.pairwise_flatMap.2 ⟨fun v _=>?_,?_⟩
  ·rw[ee];exact hc.nd.imp fun {a b} hne q=>hne (dt Elem.counts q)
  ·refine hv.imp fun {v u} hne x hx y hy q=>hne ?_
   obtain⟨c,_,rfl⟩:=av.1 hx;obtain⟨d,_,rfl⟩:=av.1 hy;exact dt Elem.value q
 have h:aK (vs.flatMap fun v=>cs.map fun c=>(⟨v,c⟩:Elem))=rO (vs.flatMap fun v=>cs.map fun c=>(⟨v,c⟩:Elem)):=by
  refine Us fun x hx y hy hle=>?_
  obtain⟨s,hs⟩:=hc.sum;have e1:=hs _ (Uz.1 hx).2;have e2:=hs _ (Uz.1 hy).2;unfold kL at hle;rw[aD,bv] at hle;have:=(PI hle.2).2 (by rw[e1,e2]);cases x; cases y;simp only at hle this;rw[hle.1,this]
 exact⟨h,by rw[h,Ut hn,acA]⟩
theorem Even.take{n m:Nat}{l:List (List Int)}(h:Even n l):Even n (l.take m):=by
 obtain⟨s,hs⟩:=h.sum;exact⟨h.nd.sublist (fW m l),fun c hc=>h.len c (cU hc),s,fun c hc=>hs c (cU hc)⟩
theorem aeS{p:aI}{r:Rule}{e:Elem}(hp:oU e.counts.length r)(hx:r.ex.Nodup)(h0: ∀ j,0<=e.counts.getD j 0)(hl:e.counts.length=p.states.length)(hv: ∀ v∈kM p r e.value,0<=v/\v<max 1 (p.values.length:Int)):WX p r e=pO p r e:=by
 have hE:=PG hp hx h0;have same:Og p r e=pG p r e->WX p r e=pO p r e:=fun q=>by
  unfold WX pO;rw[q,(Yg hp hx h0).2]
  have:(aK (pG p r e)).any (lI p)=(pG p r e).any fun x=> !(x.counts.all zu):=by
   have ahU: ∀ x∈pG p r e,lI p x= !(x.counts.all zu):=fun x hx=>by
    obtain⟨h1,h2⟩:=KG.1 hx;have hlen:=hE.len _ h2;have hval:=hv _ h1;unfold lI;rw[show((x.counts.length:Int) !=p.states.length)=false by simp; omega,show decide (x.value<0)=false by simp; omega,show decide (x.value>=max 1 (p.values.length:Int))=false by simp only[am]; omega];simp
   rw[cK,bw,bw];constructor
   ·rintro⟨x,h1,h2⟩;have h1:=(Yj hp hx h0).1 h1;exact⟨x,h1,by rw[<- ahU x h1]; exact h2⟩
   ·rintro⟨x,h1,h2⟩;exact⟨x,(Yj hp hx h0).2 h1,by rw[ahU x h1]; exact h2⟩
  rw[this]
 rcases Yi hp h0 with h|⟨_,h⟩
 ·exact same (by unfold Og pG; rw[h])
 ·rcases db 101 (uq r e.counts).length with hc|hc
  ·cases hvs:kM p r e.value with
   |nil=>exact same (by unfold Og pG; rw[hvs]; rfl)
   |cons v vs =>
    have h1:100<(aK (Og p r e)).length:=by
     unfold Og;rw[h,(acB PD hE.take).2,hvs,bE,bL,Nat.mul_succ]; omega
    have h2:100<(pG p r e).length:=by
     rw[Yh,hvs,bL,Nat.mul_succ]; omega
    unfold WX pO;rw[cJ h1,cJ h2]; rfl
  ·exact same (by unfold Og pG; rw[h,bB hc])
def aeT(p:aI)(r:Rule)(e:Elem):Int×List Elem :=
 bif (kM p r e.value).length==0 then(0,[]) else bif decide (100<(uq r e.counts).length)||decide (100<(uq r e.counts).length*(kM p r e.value).length) then(4,[]) else
 bif (pG p r e).any (fun x=> !(x.counts.all zu)) then(4,[]) else(0,aK (pG p r e))
theorem WY:aK []=[]:=by
 have h: ∀ x,x ∉ aK []:=fun x hx=>by
  unfold aK at hx;rw[wH] at hx;simp at hx
 exact List.eq_nil_iff_forall_not_mem.2 h
theorem aeU{p:aI}{r:Rule}{e:Elem}:aeT p r e=pO p r e:=by
 unfold aeT pO;rw[Yh];cases hv:((kM p r e.value).length==0) with
 |true =>
  have h0:kM p r e.value=[]:=by simpa using hv
  have hz:pG p r e=[]:=by unfold pG; rw[h0]; rfl
  rw[hz,h0,WY]; rfl
 |false =>
  have h0:(kM p r e.value).length≠0:=by simpa using hv
  have hm:(uq r e.counts).length<=(uq r e.counts).length*(kM p r e.value).length:=Nat.le_mul_of_pos_right _ (Nat.pos_of_ne_zero h0);have e1:(decide (100<(uq r e.counts).length)||decide (100<(uq r e.counts).length*(kM p r e.value).length))=decide (100<(uq r e.counts).length*(kM p r e.value).length):=by
   rw[cK,cS,ag,ag];omega
  show(bif _||_ then _ else _)=_;rw[e1];cases decide (100<(uq r e.counts).length*(kM p r e.value).length)<;>rfl
theorem aeV{resp need:List Int}{out:List (List Int)}(h: ∀ t,need.getD t 0≠0->iC resp t≠[]){t n:Nat}(ht:t<=n)(hb:100<(lF resp need out t).length):100<(lF resp need out n).length:=by
 obtain⟨k,rfl⟩:=Nat.exists_eq_add_of_le ht;exact cY hb (Ux h k)
def divO(k n:Nat):Option (List (List Int)):=if(kN k n).length<=100 then some (kN k n) else none
theorem Z4{k n f:Nat}(hf:f<=n)(h:divO (k+1) (n-f)=none):divO (k+2) n=none:=by
 unfold divO at h ⊢;have:=acz (k:=k) hf;split at h
 ·cases h
 ·rw[bX (by omega)]
theorem acC{k n i:Nat}(hi:i<=n+1)(h:100<(sH k n i).length):divO (k+2) n=none:=by
 unfold divO;obtain⟨j,hj⟩:=Nat.exists_eq_add_of_le hi;have:=ZY (k:=k) (n:=n) (i:=i) j;rw[<- hj,Uy] at this;rw[bX (by omega)]
end Go.Proofs.YtbdbmfccbpfeoabGreatDoor
