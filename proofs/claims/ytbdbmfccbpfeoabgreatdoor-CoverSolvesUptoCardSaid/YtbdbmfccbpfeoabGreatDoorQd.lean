/-
 The backward search: the program's answer. No condition.
-/
import Derived.KernelRfl
import Derived.Test.YtbdbmfccbpfeoabGreatDoorQc
namespace Go.Proofs.YtbdbmfccbpfeoabGreatDoor
open Go.Ab Go.Proofs
set_option maxRecDepth 100000
theorem S.UM(a b:Elem)(ha:a.counts.length<2^40)(hb:b.counts.length<2^40):aj Tryz.prog 29 [.dat (.elem a),.dat (.elem b)] (.bool (decide (a=b))):=by
 refine aj.of Bd.uh (by simp) rfl rfl ?_;refine ah.pure (S.jh a b ha hb) rfl ?_;refine ak.bool ?_;rw[cK]; simp only[ag,bv];exact jO.symm
theorem ae2{a b:List Elem}{i:Nat}(hi:i<a.length)(hb:i<b.length)(h:a.take i=b.take i)(he:a.getD i default=b.getD i default):a.take (i+1)=b.take (i+1):=by
 rw[bj hi,bj hb,h,<- getD_some (d:=default) hi,<- getD_some (d:=default) hb,he]
theorem S.PW(a b:List Elem)(f g:Bool)(ha:a.length<2^30)(hb:b.length<2^30)(sa:dS a)(sb:dS b):aj Tryz.prog 28 [.row 3 f (.elems a),.row 3 g (.elems b),.fn 29 []] (.bool (decide (a=b))):=by
 refine aj.of Bd.n28 (by simp) rfl rfl ?_;refine⟨fun h1=>?_,fun h1=>?_⟩
 ·replace h1:((a.length:Int) !=(b.length:Int))=true:=h1;refine ak.bool ?_;rw[cF];rintro rfl;simp at h1
 have hl:a.length=b.length:=by
  replace h1:((a.length:Int) !=(b.length:Int))=false:=h1
  have:(a.length:Int)=b.length:=by simpa using h1
  omega
 refine aA.objs 0 [15,16,1,2] (fun i:Nat=>[(17,.int i)]) (fun _=>[]) (fun i=>i<=a.length/\a.take i=b.take i) (fun i=>a.length-i) 0 [] rfl (by decide) (fun _=>rfl) ⟨ab _,rfl⟩ (sR rfl) trivial ?_;refine⟨(sR rfl),rfl,?_⟩;rintro i ⟨hi,he⟩;refine⟨fun h2=>?_,fun h2=>?_⟩
 ·have hi':i<a.length:=by simpa using h2
  have hib:i<b.length:=by omega
  have ea:=sa (a.getD i default) (by rw[getD_some hi']; exact be hi');have eb:=sb (b.getD i default) (by rw[getD_some hib]; exact be hib);repeat(refine VC.mk (by simp only[Rw.rng]; omega) ?_)
  refine ah.pure (S.UM (a.getD i default) (b.getD i default) ea eb) rfl ?_;refine⟨fun h3=>?_,fun h3=>?_⟩
  ·replace h3:(!decide (a.getD i default=b.getD i default))=true:=h3;have h3':a.getD i default≠b.getD i default:=by simpa using h3
   refine ak.bool ?_;rw[cF];rintro rfl;exact h3' rfl
  ·replace h3:(!decide (a.getD i default=b.getD i default))=false:=h3;have h3':a.getD i default=b.getD i default:=by
    rw[du] at h3;exact ai h3
   refine .mk (by simp only[okI] at *; omega) ?_;exact⟨i+1,[],⟨hi',ae2 hi' hib he h3'⟩,by omega,(sR rfl),(sR rfl),trivial⟩
 ·have hi':i=a.length:=by have:=aL h2; omega
  subst hi';rw[bp,hl,bp] at he;exact ak.bool (by rw[cJ he])
theorem S.W9(l:List Elem)(f:Bool)(hl:l.length<2^30):aP Tryz.prog 25 (V.aU [.row 3 f (.elems l)]) (Hz.ay []) 0 (fun t hp=>(l=[]/\t=T.nil/\hp=Hz.ay [])\/(t= .own 0/\hp=Hz.ay [(0,some (aZ l))])):=by
 refine oJ.of (nx:=0) (h0:=[]) Bd.fV (by simp) ⟨_,_,.inr ⟨rfl,rfl⟩⟩ rfl rfl ?_;refine aaM.mk (fun hz=>?_) ?_
 ·have h0:l=[]:=ao hz;refine Fork.mk (fun _=>?_) (fun q=>absurd (q.symm.trans ((rfl:true=true))) aq);exact⟨fun _=>False,id,T.nil,Hz.ay [],.inl ⟨h0,rfl,rfl⟩,aC _,(fun i ob hi=>by cases hi),(fun i j hi=>by cases hi),trivial,(fun i ob hi=>by cases hi),fun i hi=>by cases hi⟩
 ·conv=>whnf
  refine Fork.mk (fun q=>absurd (q.symm.trans ((rfl:false=false))).symm aq) (fun _=>?_);refine .mk (by show(0+l.length)*32<=140737488355328/\0+l.length<=1152921504606846976; omega) ?_;exact iT.one (c:=0) (j:=5) (o:=aZ l) (t:=.own 0) rfl rfl rfl nofun (.inr rfl) rfl (.eq rfl) (.inr ⟨rfl,rfl⟩)
theorem ah.W9{h:Hz}{n:Nat}{l:List Elem}{f:Bool}{K:V->Hz->Prop}{KW:Nat->V->Hz->Prop}(hn:h.get n=none)(hl:l.length<2^30)
  (h1:l=[]->K (.row 0 true .nil) ((n,none)::h)) (h2:K (.own n) ((n,some (aZ l))::h)):ah Tryz.prog false none 25 [.row 3 f (.elems l)] h n K KW:=by
 refine ah.QO [] (S.W9 l f hl) rfl rfl rfl rfl rfl trivial hn (by simp) ?_;rintro t hp (⟨a,rfl,rfl⟩|⟨rfl,rfl⟩)
 ·exact⟨.row 0 true .nil,[none],rfl,rfl,⟨rfl,trivial⟩,h1 a⟩
 ·exact⟨.own n,[some (aZ l)],rfl,rfl,⟨dt some (tX rfl _).symm,trivial⟩,h2⟩
theorem S.Bh(l:List Elem)(hl:l.length<2^29)(hg: ∀ e∈l,Ce e):aP Tryz.prog 27 (V.aU [.own 0]) (Hz.ay [(0,some (aZ l))]) 1 (fun t hp=>t=(V.row 3 false (.elems (aK l))).aH/\hp=Hz.ay []):=by
 refine aP.ahR (S.zF l 1 (by decide) hl hg) ?_;have hs: ∀ o:OV,ace (fun _=>True) (Hz.ay [(1,some o)])=Hz.ay []:=fun o=>by
  funext i;simp only[ace,cj];rfl
 rintro t hp (⟨rfl,rfl⟩|⟨m,rfl,rfl⟩)
 ·exact⟨fun _=>True,_,CG trivial rfl,rfl,rfl,hs _⟩
 ·exact⟨fun _=>True,_,(ak.adz (m:=m) rfl).ok,rfl,rfl,hs _⟩
theorem ah.Bh{h:Hz}{i n:Nat}{l:List Elem}{K:V->Hz->Prop}{KW:Nat->V->Hz->Prop}(hi:h.get i=some (aZ l))(hn:h.get n=none)(hin:i≠n)(hl:l.length<2^29)(hg: ∀ e∈l,Ce e)
  (hK:K (.row 3 false (.elems (aK l))) ((i,none)::(n,none)::h)):ah Tryz.prog false none 27 [.own i] h n K KW:=by
 refine ah.QO [i] (S.Bh l hl hg) rfl rfl rfl rfl rfl ⟨⟨_,hi,tX rfl _⟩,trivial⟩ hn (by simp; exact hin) ?_;rintro t hp ⟨rfl,rfl⟩;exact⟨_,[none,none],rfl,Uc rfl _,⟨rfl,rfl,trivial⟩,hK⟩
def gV(p:aI)(b:List Elem)(i:Nat):List Elem:=b++(b.take i).flatMap fun x=>(jl p x).2
def growE(p:aI)(b:List Elem):Option (List Elem):=bif b.any (fun x=>(jl p x).1 !=0) then none else bif decide (100<(aK (gV p b b.length)).length) then none else some (aK (gV p b b.length))
def nP(p:aI):Nat->List Elem->Nat->Option (List Elem×Nat×Bool)
 |0,b,k=>match growE p b with
  |none=>none
  |some l=>some (b,k,decide (l=b))
 |f+1,b,k=>match growE p b with
  |none=>none
  |some l=>bif decide (l=b) then some (b,k,true) else nP p f l (k+1)
theorem pI{p:aI}{f:Nat}{b:List Elem}{k:Nat}(h:growE p b=none):nP p f b k=none:=by
 cases f<;>simp only[nP,h]
theorem FK{p:aI}{f:Nat}{b:List Elem}{k:Nat}(h:growE p b=some b):nP p f b k=some (b,k,true):=by
 cases f<;>simp only[nP,h,decide_true,bS]
theorem PX{p:aI}{b l:List Elem}{k:Nat}(h:growE p b=some l)(hn:l≠b):nP p 0 b k=some (b,k,false):=by
 simp only[nP,h,cF hn]
theorem FM{p:aI}{f:Nat}{b l:List Elem}{k:Nat}(h:growE p b=some l)(hn:l≠b):nP p (f+1) b k=nP p f l (k+1):=by
 simp only[nP,h,cF hn,bO]
theorem UN{p:aI}{e:Elem}:(jl p e).1=0\/(jl p e).1=4:=by
 unfold jl;cases p.rules.any (fun r=>(pO p r e).1 !=0)
 ·cases decide (100<(aK (iD p e p.rules.length)).length)
  ·exact .inl rfl
  ·exact .inr rfl
 ·exact .inr rfl
theorem DL{p:aI}{e:Elem}:(jl p e).2.length<=100:=by
 unfold jl;cases p.rules.any (fun r=>(pO p r e).1 !=0)
 ·cases h:decide (100<(aK (iD p e p.rules.length)).length) with
  |false=>have:=aL h; show(aK _).length<=100; omega
  |true=>exact ab _
 ·exact ab _
theorem ND{p:aI}{e x:Elem}(hF:BL p e)(h:x∈(jl p e).2):lI p x=false:=by
 unfold jl at h;cases h1:p.rules.any (fun r=>(pO p r e).1 !=0) with
 |true=>rw[h1] at h; cases h
 |false =>
  rw[h1,bO] at h;cases h2:decide (100<(aK (iD p e p.rules.length)).length) with
  |true=>rw[h2] at h; cases h
  |false=>rw[h2,bO] at h; exact FH hF (mQ h)
theorem FN{p:aI}{b:List Elem}{i:Nat}(hi:i<b.length):gV p b (i+1)=gV p b i++(jl p (b.getD i default)).2:=by
 unfold gV;rw[bj hi,cv,getD_some hi,ax]; simp
theorem Jp{p:aI}{b:List Elem}{i:Nat}:(gV p b i).length<=b.length+i*100:=by
 have: ∀ L:List Elem,(L.flatMap fun r=>(jl p r).2).length<=L.length*100:=by
  intro L;induction L with
  |nil=>simp
  |cons c L ih=>rw[eh,aM,bL,eK]; have:=@DL p c; omega
 unfold gV;rw[aM];have h1:=this (b.take i);have h2:(b.take i).length*100<=i*100:=cp _ (by rw[bE]; omega);omega
def yD(p:aI)(b:List Elem):Prop:= ∀ x∈b,BL p x
theorem wY{p:aI}{b:List Elem}{i:Nat}(hb:yD p b):yD p (gV p b i):=by
 intro x hx;rcases cH.1 hx with hx|hx
 ·exact hb x hx
 ·obtain⟨y,hy,hx⟩:=ci.1 hx;have hF:=hb y (cU hy);exact Nz hF (ND hF hx)
theorem PZ{p:aI}{x:Elem}(h:BL p x):Ce x:=by
 have h1:=h.valid.states;have h2:=h.len;exact⟨by omega,fun y hy=>by have:=h.nums y hy; omega⟩
theorem Z8{p:aI}{b l:List Elem}(hb:yD p b)(h:growE p b=some l):yD p l/\l.length<=100:=by
 unfold growE at h;cases h1:b.any (fun x=>(jl p x).1 !=0) with
 |true=>rw[h1] at h; cases h
 |false =>
  rw[h1,bO] at h;cases h2:decide (100<(aK (gV p b b.length)).length) with
  |true=>rw[h2] at h; cases h
  |false =>
   rw[h2,bO] at h;cases h;exact⟨fun x hx=>wY hb x (mQ hx),by have:=aL h2; omega⟩
def UO(o:Option (List Elem×Nat×Bool)):V:=match o with
 |none=>.dQ [.row 3 false (.elems []),.int 0,.bool false,.int 4]
 |some (b,k,d)=>.dQ [.row 3 false (.elems b),.int k,.bool d,.int 0]
theorem P5(o:Option (List Elem×Nat×Bool)):(UO o).free=true:=by
 match o with
 |none=>rfl
 |some (b,k,d)=>rfl
theorem ak.UQ{h:Hz}{a c:V}{b:Bool}:ak (.dQ [.row 3 false (.elems []),a,.bool b,c]) (.dQ [.row 0 true .nil,a,.bool b,c]) h:=⟨by
 show T.sub (fun _=>True) h.ay (.dQ [.sl 3 false [],a.aH,(V.bool b).aH,c.aH]) (.dQ [.sl 0 true [],a.aH,(V.bool b).aH,c.aH]);simp only[T.sub,T.dF]
 exact⟨⟨.inl trivial,.inr trivial,fun h=>by cases h⟩,aC _,aC _,aC _,trivial⟩⟩
def yF(p:aI)(q:Prop')(rounds:Int):Option (List Elem×Nat×Bool):=bif decide (100<(iR p q).length) then none else nP p rounds.toNat (iR p q) 0
theorem Rk{p:aI}{q:Prop'}(hc:cZ p q=0):yD p (iR p q):=by
 obtain⟨_,_,b3,b4⟩:=Iw hc;have hcov:FZ p=0:=by unfold FZ; rw[show(bJ p !=0)=false by simp[b3],b4]; rfl
 intro x hx;refine Ri hcov ?_;unfold iR at hx;rw[show(cZ p q !=0)=false by simp[hc],bO] at hx;obtain⟨w,hw,h3⟩:=ci.1 hx;obtain⟨u,_,rfl⟩:=av.1 h3;have hw':=cL.1 hw;unfold lI;have hl:(mM p.states.length u).length=p.states.length:=iG;have hall:(mM p.states.length u).all zu=true:=by
  rw[bu];intro y hy;have:=Gf y hy;cases hk:zu y with
  |true=>rfl
  |false =>
   have h:=Ij (x:=y);rw[hk] at h;simp only[f9,cS,ag] at h;omega
 show(((((mM p.states.length u).length:Int) !=p.states.length)|| !((mM p.states.length u).all zu))||decide ((w:Int)<0)||decide ((w:Int)>=max 1 (p.values.length:Int)))=false;rw[hl,hall,cF (by omega: ¬ (w:Int)<0),cF (by omega: ¬ (w:Int)>=max 1 (p.values.length:Int))];simp
set_option maxHeartbeats 2000000 in
theorem S.pJ(p:aI)(q:Prop')(rounds:Int)(hp:dU p)(hq:jm q)(hc:cZ p q=0)(hr:rounds<2^40):aj Tryz.prog 12 [.dat (.fQ p),.dat (.prop q),.int rounds] (UO (yF p q rounds)):=by
 have hbf:=Rk hc;obtain⟨l1,l2⟩:=Cj p q hp;obtain⟨_,b2,b3,_⟩:=Iw hc;have hv:=KX b3;have v1:=hv.pos; have v2:=hv.states; have v3:=hv.values;have hbad:iR p q=aK (xA q p.states.length (max 1 p.values.length) (4 ^ p.states.length)):=by rw[iR,show(cZ p q !=0)=false by simp[hc],bad_law]; rfl
 generalize hres:UO (yF p q rounds)=res;refine aj.of Bd.pJ (by simp) rfl (by rw[<- hres]; exact P5 _) ?_;refine ah.pure (S.jB p q p.states.length (max 1 p.values.length) hp hq rfl v1 v2 rfl (by omega) b2) rfl ?_;conv=>whnf
 rw[<- hbad];by_cases ahX:100<(iR p q).length
 ·have hB:yF p q rounds=none:=by unfold yF; rw[cJ ahX]; rfl
  refine aA.times 1 rfl ?_;refine Fork.mk (fun _=>?_) (fun q=>absurd (q.symm.trans (cJ (by omega))) aq);conv=>whnf
  rw[<- hres,hB];exact ak.UQ
 have hB:yF p q rounds=nP p rounds.toNat (iR p q) 0:=by unfold yF; rw[cF ahX]; rfl
 refine aA.objs 4 [2,3,4] (fun x:Nat×List Elem=>[(11,.int x.1),(10,.row 3 false (.elems x.2))]) (fun _=>[(0,Ad p),(1,Oh q)]) (fun x=>x.2.length<=100/\yD p x.2/\UO (nP p (rounds-(x.1:Int)).toNat x.2 x.1)=res) (fun x=>(rounds-(x.1:Int)).toNat) (0,iR p q) [0,1] rfl (by decide) (fun _=>rfl) ⟨by show(iR p q).length<=100; omega,hbf,by rw[<- hres,hB]; show UO (nP p (rounds-((0:Nat):Int)).toNat _ _)=_; rw[show rounds-((0:Nat):Int)=rounds by omega]⟩ (sR rfl) ⟨dA rfl rfl,dA rfl rfl,trivial⟩ ?_;refine⟨(sR rfl),rfl,?_⟩;rintro⟨k,b⟩ ⟨acP,hfit,hR⟩;replace acP:b.length<=100:=acP;replace hfit:yD p b:=hfit;replace hR:UO (nP p (rounds-(k:Int)).toNat b k)=res:=hR;refine Fork.mk (fun q=>absurd (q.symm.trans (cF (show ¬ 100<(b.length:Int) by omega))).symm aq) (fun _=>?_);refine ah.W9 rfl (show b.length<2^30 by omega) (fun h0=>?_) ?_
 ·replace h0:b=[]:=h0;refine aA.nil 12 50 3 (by rfl) rfl rfl rfl ?_;refine aA.objs 4 [27,28,10,11,2,3,4] (fun i:Nat=>[(29,.int i),(12,.own 2)]) (fun i=>[(0,Ad p),(1,Oh q),(2,aZ (gV p b i))]) (fun i=>i<=b.length/\(b.take i).any (fun x=>(jl p x).1 !=0)=false) (fun i=>b.length-i) 0 [0,1,13] rfl (by decide) (fun _=>rfl) ⟨ab _,rfl⟩ (sR rfl) ⟨dA rfl rfl,dA rfl rfl,⟨rfl,nofun,rfl,rfl,rfl,_,rfl,rfl,rfl,dJ.of_eq (by rw[h0]; rfl)⟩,trivial⟩ ?_;refine⟨(sR rfl),rfl,?_⟩;rintro i ⟨hi,hno⟩;have hgl:=Jp (p:=p) (b:=b) (i:=i);refine⟨fun h2=>?_,fun h2=>?_⟩
  ·have hi':i<b.length:=by simpa using h2
   have hmem:b.getD i default∈b:=by rw[getD_some hi']; exact be hi'
   have hFx:=hfit _ hmem;have hst:=FN (p:=p) hi';have hpl:=@DL p (b.getD i default);have hpe:=@UN p (b.getD i default);refine .mk (by simp only[Rw.rng] at *; omega) ?_;refine ah.pure (S.wX p (b.getD i default) hp hFx) rfl ?_;generalize hQ:jl p (b.getD i default)=Q at hst hpl hpe;refine⟨fun h3=>?_,fun h3=>?_⟩
   ·replace h3:(Q.1 !=0)=true:=h3;have h4:Q.1=4:=by
     rcases hpe with h|h
     ·rw[h] at h3; cases h3
     ·exact h
    have hnone:growE p b=none:=by
     unfold growE;rw[bw.2 ⟨_,hmem,by rw[hQ]; exact h3⟩]; rfl
    conv=>whnf
    rw[<- hR,pI hnone,h4];exact ak.UQ
   ·replace h3:(Q.1 !=0)=false:=h3;repeat(refine VC.mk (by first|(show((gV p b i).length+Q.2.length)*32<=140737488355328/\(gV p b i).length+Q.2.length<=1152921504606846976; omega)|(simp only[okI] at *; omega)) ?_)
    refine⟨i+1,[0,1,21],⟨hi',?_⟩,by omega,(sR rfl),(sR rfl),dA rfl rfl,dA rfl rfl,⟨rfl,nofun,rfl,rfl,rfl,_,rfl,rfl,rfl,dJ.of_eq (by rw[hst])⟩,trivial⟩;rw[bj hi',dq,hno,cr,<- getD_some (d:=default) hi'];show((jl p (b.getD i default)).1 !=0||false)=false;rw[hQ,h3]; rfl
  have hi':i=b.length:=by replace h2:decide ((i:Int)<(b.length:Int))=false:=h2; have:=aL h2; omega
  subst hi';rw[bp] at hno;have hgr:growE p b=bif decide (100<(aK (gV p b b.length)).length) then none else some (aK (gV p b b.length)):=by unfold growE; rw[hno]; rfl
  have hgf:=wY (i:=b.length) hfit;refine ah.Bh rfl rfl (by decide) (by omega) (fun x hx=>PZ (hgf x hx)) ?_;have hml:=uI (gV p b b.length);have hnf:yD p (aK (gV p b b.length)):=fun x hx=>hgf x (mQ hx)
  generalize hM:aK (gV p b b.length)=M at hgr hml hnf;refine⟨fun h3=>?_,fun h3=>?_⟩
  ·replace h3:decide (100<(M.length:Int))=true:=h3;have:=ai h3;rw[cJ (by omega:100<M.length),bS] at hgr;conv=>whnf
   rw[<- hR,pI hgr];exact ak.UQ
  replace h3:decide (100<(M.length:Int))=false:=h3;have ahY:=aL h3;rw[cF (by omega: ¬ 100<M.length),bO] at hgr;refine ah.pure (S.PW M b false false (by omega) (by omega) (fun x hx=>by have:=(hnf x hx).len; have:=(hnf x hx).valid.states; omega) (fun x hx=>by have:=(hfit x hx).len; have:=(hfit x hx).valid.states; omega)) rfl ?_;refine⟨fun h4=>?_,fun h4=>?_⟩
  ·have YP:M=b:=ai h4;rw[YP] at hgr;conv=>whnf
   rw[<- hR,FK hgr];exact ak.eqv rfl
  have YP:M≠b:=aL h4;refine⟨fun h5=>?_,fun h5=>?_⟩
  ·have hkr:(rounds-(k:Int)).toNat=0:=by have:=ai h5; omega
   conv=>whnf
   rw[<- hR,hkr,PX hgr YP];exact ak.eqv rfl
  ·have hkr:(rounds-(k:Int)).toNat=(rounds-((k+1:Nat):Int)).toNat+1:=by have:=aL h5; omega
   refine .mk (by simp only[okI] at *; omega) ?_;refine⟨(k+1,M),[0,1],⟨by show M.length<=100; omega,hnf,?_⟩,?_,(sR rfl),(sR rfl),dA rfl rfl,dA rfl rfl,trivial⟩
   ·show UO (nP p (rounds-((k+1:Nat):Int)).toNat M (k+1))=res;rw[<- hR,hkr,FM hgr YP]
   ·show(rounds-((k+1:Nat):Int)).toNat<(rounds-(k:Int)).toNat;omega
 ·conv=>whnf
  refine aA.objs 4 [27,28,10,11,2,3,4] (fun i:Nat=>[(29,.int i),(12,.own 2)]) (fun i=>[(0,Ad p),(1,Oh q),(2,aZ (gV p b i))]) (fun i=>i<=b.length/\(b.take i).any (fun x=>(jl p x).1 !=0)=false) (fun i=>b.length-i) 0 [0,1,8] rfl (by decide) (fun _=>rfl) ⟨ab _,rfl⟩ (sR rfl) ⟨dA rfl rfl,dA rfl rfl,⟨rfl,nofun,rfl,rfl,rfl,_,rfl,rfl,rfl,dJ.of_eq (by unfold gV; simp)⟩,trivial⟩ ?_;refine⟨(sR rfl),rfl,?_⟩;rintro i ⟨hi,hno⟩;have hgl:=Jp (p:=p) (b:=b) (i:=i);refine⟨fun h2=>?_,fun h2=>?_⟩
  ·have hi':i<b.length:=by simpa using h2
   have hmem:b.getD i default∈b:=by rw[getD_some hi']; exact be hi'
   have hFx:=hfit _ hmem;have hst:=FN (p:=p) hi';have hpl:=@DL p (b.getD i default);have hpe:=@UN p (b.getD i default);refine .mk (by simp only[Rw.rng] at *; omega) ?_;refine ah.pure (S.wX p (b.getD i default) hp hFx) rfl ?_;generalize hQ:jl p (b.getD i default)=Q at hst hpl hpe;refine⟨fun h3=>?_,fun h3=>?_⟩
   ·replace h3:(Q.1 !=0)=true:=h3;have h4:Q.1=4:=by
     rcases hpe with h|h
     ·rw[h] at h3; cases h3
     ·exact h
    have hnone:growE p b=none:=by
     unfold growE;rw[bw.2 ⟨_,hmem,by rw[hQ]; exact h3⟩]; rfl
    conv=>whnf
    rw[<- hR,pI hnone,h4];exact ak.UQ
   ·replace h3:(Q.1 !=0)=false:=h3;repeat(refine VC.mk (by first|(show((gV p b i).length+Q.2.length)*32<=140737488355328/\(gV p b i).length+Q.2.length<=1152921504606846976; omega)|(simp only[okI] at *; omega)) ?_)
    refine⟨i+1,[0,1,21],⟨hi',?_⟩,by omega,(sR rfl),(sR rfl),dA rfl rfl,dA rfl rfl,⟨rfl,nofun,rfl,rfl,rfl,_,rfl,rfl,rfl,dJ.of_eq (by rw[hst])⟩,trivial⟩;rw[bj hi',dq,hno,cr,<- getD_some (d:=default) hi'];show((jl p (b.getD i default)).1 !=0||false)=false;rw[hQ,h3]; rfl
  have hi':i=b.length:=by replace h2:decide ((i:Int)<(b.length:Int))=false:=h2; have:=aL h2; omega
  subst hi';rw[bp] at hno;have hgr:growE p b=bif decide (100<(aK (gV p b b.length)).length) then none else some (aK (gV p b b.length)):=by unfold growE; rw[hno]; rfl
  have hgf:=wY (i:=b.length) hfit;refine ah.Bh rfl rfl (by decide) (by omega) (fun x hx=>PZ (hgf x hx)) ?_;have hml:=uI (gV p b b.length);have hnf:yD p (aK (gV p b b.length)):=fun x hx=>hgf x (mQ hx)
  generalize hM:aK (gV p b b.length)=M at hgr hml hnf;refine⟨fun h3=>?_,fun h3=>?_⟩
  ·replace h3:decide (100<(M.length:Int))=true:=h3;have:=ai h3;rw[cJ (by omega:100<M.length),bS] at hgr;conv=>whnf
   rw[<- hR,pI hgr];exact ak.UQ
  replace h3:decide (100<(M.length:Int))=false:=h3;have ahY:=aL h3;rw[cF (by omega: ¬ 100<M.length),bO] at hgr;refine ah.pure (S.PW M b false false (by omega) (by omega) (fun x hx=>by have:=(hnf x hx).len; have:=(hnf x hx).valid.states; omega) (fun x hx=>by have:=(hfit x hx).len; have:=(hfit x hx).valid.states; omega)) rfl ?_;refine⟨fun h4=>?_,fun h4=>?_⟩
  ·have YP:M=b:=ai h4;rw[YP] at hgr;conv=>whnf
   rw[<- hR,FK hgr];exact ak.eqv rfl
  have YP:M≠b:=aL h4;refine⟨fun h5=>?_,fun h5=>?_⟩
  ·have hkr:(rounds-(k:Int)).toNat=0:=by have:=ai h5; omega
   conv=>whnf
   rw[<- hR,hkr,PX hgr YP];exact ak.eqv rfl
  ·have hkr:(rounds-(k:Int)).toNat=(rounds-((k+1:Nat):Int)).toNat+1:=by have:=aL h5; omega
   refine .mk (by simp only[okI] at *; omega) ?_;refine⟨(k+1,M),[0,1],⟨by show M.length<=100; omega,hnf,?_⟩,?_,(sR rfl),(sR rfl),dA rfl rfl,dA rfl rfl,trivial⟩
   ·show UO (nP p (rounds-((k+1:Nat):Int)).toNat M (k+1))=res;rw[<- hR,hkr,FM hgr YP]
   ·show(rounds-((k+1:Nat):Int)).toNat<(rounds-(k:Int)).toNat;omega
def bkX(p:aI)(q:Prop')(rounds:Int):Int×List Elem×Bool:=bif cZ p q !=0 then(cZ p q,[],false) else bif decide (100<rounds) then(1,[],false) else match yF p q rounds with
 |none=>(4,[],false)
 |some (b,_,d)=>(0,b,d)
def Z9(p:aI)(q:Prop')(s:Int×Int)(x:Elem):Int×Int:=bif vW p q x&&(s.1==1||decide (dL x<s.2)) then(2,dL x) else s
def Bj(p:aI)(q:Prop')(b:List Elem)(i:Nat):Int×Int:=(b.take i).foldl (Z9 p q) (1,0)
theorem P6{p:aI}{q:Prop'}{b:List Elem}{i:Nat}(hi:i<b.length):Bj p q b (i+1)=Z9 p q (Bj p q b i) (b.getD i default):=by
 unfold Bj;rw[bj hi,gS,getD_some hi]; rfl
def yE(p:aI)(q:Prop')(rounds:Int):Int×Int×List Elem×Int×Int:=bif cZ p q !=0 then(cZ p q,0,[],0,0) else bif decide (100<rounds) then(1,0,[],0,0) else match yF p q rounds with
 |none=>(4,0,[],0,0)
 |some (b,k,d)=>bif d then(0,(Bj p q b b.length).1,b,(Bj p q b b.length).2,k) else(0,0,[],0,k)
def ae3(x:Int×Int×List Elem×Int×Int):V:=.dQ [.agg [.int x.2.1,.row 3 false (.elems x.2.2.1),.int x.2.2.2.1,.int x.2.2.2.2],.int x.1]
theorem ak.aac{h:Hz}{a c d e:V}:ak (.dQ [.agg [a,.row 3 false (.elems []),c,d],e]) (.dQ [.agg [a,.row 0 true .nil,c,d],e]) h:=⟨by
 show T.sub (fun _=>True) h.ay (.dQ [.agg [a.aH,.sl 3 false [],c.aH,d.aH],e.aH]) (.dQ [.agg [a.aH,.sl 0 true [],c.aH,d.aH],e.aH]);simp only[T.sub,T.dF]
 exact⟨⟨aC _,⟨.inl trivial,.inr trivial,fun h=>by cases h⟩,aC _,aC _,trivial⟩,aC _,trivial⟩⟩
abbrev boxS(a:Int)(b:List Elem)(c d:Int):OV:=.box 34 5 (.agg [.int a,.row 3 false (.elems b),.int c,.int d])
theorem KQ{p:aI}{q:Prop'}{rounds:Int}{b:List Elem}{k:Nat}{d:Bool}(hc:cZ p q=0)(h:yF p q rounds=some (b,k,d)):yD p b/\b.length<=100:=by
 unfold yF at h;cases h1:decide (100<(iR p q).length) with
 |true=>rw[h1] at h; cases h
 |false =>
  rw[h1,bO] at h
  have: ∀ f b0 k0,yD p b0->b0.length<=100->nP p f b0 k0=some (b,k,d)->yD p b/\b.length<=100:=by
   intro f;induction f with
   |zero =>
    intro b0 k0 h1 h2 h3;simp only[nP] at h3;split at h3
    ·cases h3
    ·cases h3; exact⟨h1,h2⟩
   |succ f ih =>
    intro b0 k0 h1 h2 h3;simp only[nP] at h3;split at h3
    ·cases h3
    ·rename_i l hl;obtain⟨g1,g2⟩:=Z8 h1 hl;cases he:decide (l=b0) with
     |true=>rw[he] at h3; cases h3; exact⟨h1,h2⟩
     |false=>rw[he] at h3; exact ih l _ g1 g2 h3
  exact this _ _ _ (Rk hc) (by have:=aL h1; omega) h
set_option maxHeartbeats 1000000 in
theorem S.oQ(p:aI)(q:Prop')(rounds:Int)(hp:dU p)(hq:jm q):aj Tryz.prog 5 [.dat (.fQ p),.dat (.prop q),.int rounds] (ae3 (yE p q rounds)):=by
 generalize hres:ae3 (yE p q rounds)=res;refine aj.of Bd.oQ (by simp) rfl (by rw[<- hres]; rfl) ?_;refine ah.pure (S.oW p q hp hq) rfl ?_;refine⟨fun h1=>?_,fun h1=>?_⟩
 ·replace h1:(cZ p q !=0)=true:=h1;conv=>whnf
  rw[<- hres,yE,h1];exact ak.aac
 replace h1:(cZ p q !=0)=false:=h1;refine⟨fun h2=>?_,fun h2=>?_⟩
 ·replace h2:decide (100<rounds)=true:=h2;conv=>whnf
  rw[<- hres,yE,h1,h2];exact ak.aac
 replace h2:decide (100<rounds)=false:=h2;have hr:=aL h2;have hX:yE p q rounds=match yF p q rounds with
  |none=>(4,0,[],0,0)
  |some (b,k,d)=>bif d then(0,(Bj p q b b.length).1,b,(Bj p q b b.length).2,k) else(0,0,[],0,k):=by rw[yE,h1,h2]; rfl
 refine ah.pure (S.pJ p q rounds hp hq (BM h1) (by omega)) (P5 _) ?_;match hs:yF p q rounds with
 |none =>
  rw[hs] at hX;refine Fork.mk (fun _=>?_) (fun q=>absurd (q.symm.trans (rfl)) aq);conv=>whnf
  rw[<- hres,hX];exact ak.aac
 |some (b,k,false) =>
  rw[hs] at hX;refine Fork.mk (fun q=>absurd (q.symm.trans (rfl)).symm aq) (fun _=>?_);refine Fork.mk (fun _=>?_) (fun q=>absurd (q.symm.trans (rfl)) aq);conv=>whnf
  rw[<- hres,hX];exact ak.aac
 |some (b,k,true) =>
  rw[hs] at hX;obtain⟨hfit,acP⟩:=KQ (BM h1) hs;refine Fork.mk (fun q=>absurd (q.symm.trans (rfl)).symm aq) (fun _=>?_);refine Fork.mk (fun q=>absurd (q.symm.trans (rfl)).symm aq) (fun _=>?_);refine aA.objs 4 [47,48,3,4,6] (fun i:Nat=>[(49,.int i),(13,.ptr 3 0 0)]) (fun i=>[(0,Ad p),(1,Oh q),(2,.box 34 5 (.agg [.int 0,.row 0 true .nil,.int 0,.int 0])),(3,boxS (Bj p q b i).1 b (Bj p q b i).2 k)]) (fun i=>i<=b.length) (fun i=>b.length-i) 0 [0,1,2,32] rfl (by decide) (fun _=>rfl) (ab _) (sR rfl) ⟨dA rfl rfl,dA rfl rfl,dA rfl rfl,dA rfl rfl,trivial⟩ ?_;refine⟨(sR rfl),rfl,?_⟩;rintro i hi;refine⟨fun h3=>?_,fun h3=>?_⟩
  ·have hi':i<b.length:=by simpa using h3
   have hst:=P6 (p:=p) (q:=q) hi';have hF:=hfit (b.getD i default) (by rw[getD_some hi']; exact be hi');have hle:(b.getD i default).counts.length<2^30:=by have:=hF.len; have:=hF.valid.states; omega
   refine .mk (by simp only[Rw.rng] at *; omega) ?_;refine ah.pure (S.oZ (b.getD i default) (by omega)) rfl ?_;refine ah.pure (S.nU p q (b.getD i default) hp hq hle (Aq (BM h1))) rfl ?_;generalize hS:Bj p q b i=s at hst;repeat(refine VC.mk (by first|exact id|exact fun h=>⟨h,h⟩|(intro h; simp_all; done)) ?_)
   refine⟨fun h4=>?_,fun h4=>?_⟩
   ·replace h4:(vW p q (b.getD i default)&&(s.1==1||decide (dL (b.getD i default)<s.2)))=true:=h4;have hst':Bj p q b (i+1)=(2,dL (b.getD i default)):=by rw[hst,Z9,h4]; rfl
    refine .mk (by simp only[okI] at *; omega) ?_;exact⟨i+1,[0,1,2,3],hi',by omega,(sR rfl),(sR rfl),dA rfl rfl,dA rfl rfl,dA rfl rfl,⟨rfl,nofun,rfl,rfl,rfl,_,rfl,rfl,rfl,dJ.of_eq (by rw[hst']; rfl)⟩,trivial⟩
   ·replace h4:(vW p q (b.getD i default)&&(s.1==1||decide (dL (b.getD i default)<s.2)))=false:=h4;have hst':Bj p q b (i+1)=s:=by rw[hst,Z9,h4]; rfl
    refine .mk (by simp only[okI] at *; omega) ?_;exact⟨i+1,[0,1,2,3],hi',by omega,(sR rfl),(sR rfl),dA rfl rfl,dA rfl rfl,dA rfl rfl,⟨rfl,nofun,rfl,rfl,rfl,_,rfl,rfl,rfl,dJ.of_eq (by rw[hst'])⟩,trivial⟩
  ·have hi':i=b.length:=by have:=aL h3; omega
   subst hi';conv=>whnf
   rw[<- hres,hX];exact ak.eqv rfl
def Jq(name:Str)(fr tt read write:Int):Rule:=⟨name,1,fr,tt,0,0,[],[],[],[],read,write,[],0,[],[],[],0⟩
def uQ:aI:=⟨[109,120],1,[[105],[119],[99]],[],[[102,114,101,101],[104,101,108,100]],0,[],[0],[],[Jq [97,115,107] 0 1 (-1) (-1),Jq [116,97,107,101] 1 2 0 1,Jq [108,101,97,118,101] 2 0 1 0]⟩
def EO:Prop':=⟨[101,120],1,[],[⟨[2],2⟩],[],[]⟩
theorem Bl{name:Str}{fr tt read write:Int}(_h:name.length<2^30):vK (Jq name fr tt read write):=by
 constructor<;>simp[Jq]
theorem JL:dU uQ:=by
 refine⟨by decide,by decide,by decide,by decide,by decide,by decide,by decide,fun i=>?_,by decide⟩;match i with
 |0=>exact Bl (by decide)
 |1=>exact Bl (by decide)
 |2=>exact Bl (by decide)
 |i+3=>constructor<;>exact(by decide:(0:Nat)<2^30)
def Ik:V:=.row 0 true .nil
def Yn(name:Str)(fr tt rd wr:Int):V:=.agg [.str name,.int 1,.int fr,.int tt,.int 0,.int 0,Ik,Ik,Ik,Ik,.int rd,.int wr,Ik,.int 0,Ik,Ik,Ik,.int 0]
def acQ:V:=.agg [.str uQ.name,.int 1,.row 0 false (.strs uQ.states),Ik,.row 0 false (.strs uQ.values),.int 0,Ik,.row 0 false (.ints [0]),Ik,.Fp 19 false [Yn [97,115,107] 0 1 (-1) (-1),Yn [116,97,107,101] 1 2 0 1,Yn [108,101,97,118,101] 2 0 1 0]]
theorem vI{Z:Nat->Prop}{h:Hp}{k:Nat}{l:List T}:T.sub Z h (.sl k false l) (.sl k true l):=⟨.inl rfl,.inl rfl,fun h=>by cases h⟩
theorem oM{Z:Nat->Prop}{h:Hp}{k:Nat}:T.sub Z h (.sl k false []) T.nil:=⟨.inl rfl,.inr rfl,fun h=>by cases h⟩
theorem aj.weak{P:Program}{f:FuncId}{args:List V}{a b:V}(S:aj P f args a)(hs:T.sub (fun _=>True) no b.aH a.aH)(hb:b.free=true):aj P f args b :=
 CO.shut S (fun _=>hs) (V.o9 b hb)
theorem NG{Z:Nat->Prop}{h:Hp}{name:Str}{fr tt rd wr:Int}:T.sub Z h (ML (Jq name fr tt rd wr)) (Yn name fr tt rd wr).aH:=by
 refine⟨aC _,aC _,aC _,aC _,aC _,aC _,oM,oM,oM,oM,aC _,aC _,oM,aC _,oM,oM,oM,aC _,trivial⟩
theorem aad:T.sub (fun _=>True) no (abJ uQ) acQ.aH:=by
 refine⟨aC _,aC _,aC _,oM,aC _,aC _,oM,aC _,oM,⟨.inr ⟨⟨NG,NG,NG,trivial⟩,fun t ht=>?_⟩,.inl rfl,fun h=>h⟩,trivial⟩;obtain⟨x,_,rfl⟩:=av.1 ht; rfl
theorem Yo{Z:Nat->Prop}{h:Hp}{k i ty:Nat}{l:List T}(hz:Z i)(hf:T.bW l=true)(hk:k≠iM)(q:h i=some ⟨ty,k,l⟩):T.sub Z h (.sl k false l) (.own i):=⟨rfl,hz,hf,hk,ty,q⟩
theorem S.NH:aj Tryz.prog 19 [] (.dat (.fQ uQ)):=by
 refine aj.weak (a:=acQ) ?_ aad rfl;refine aj.of Bd.oH (by simp) rfl rfl ?_;refine⟨⟨aC _,aC _,vI,aC _,vI,aC _,aC _,vI,aC _,Yo trivial rfl (by decide) rfl,trivial⟩⟩
def ahZ:V:=.agg [.str EO.name,.int 1,Ik,.Fp 3 false [.agg [.row 0 true (.ints [2]),.int 2]],Ik,Ik]
theorem S.DN:aj Tryz.prog 20 [] (.dat (.prop EO)):=by
 refine aj.weak (a:=ahZ) ?_ ?_ rfl
 ·refine aj.of Bd.kQ (by simp) rfl rfl ?_;exact⟨⟨aC _,aC _,aC _,Yo trivial rfl (by decide) rfl,aC _,aC _,trivial⟩⟩
 ·refine⟨aC _,aC _,oM,⟨.inr ⟨⟨⟨vI,aC _,trivial⟩,trivial⟩,fun t ht=>?_⟩,.inl rfl,fun h=>h⟩,oM,oM,trivial⟩;obtain⟨x,_,rfl⟩:=av.1 ht; rfl
def Oi:List Elem:=[⟨0,[0,0,2]⟩,⟨0,[0,1,1]⟩,⟨0,[1,0,1]⟩,⟨1,[0,0,2]⟩]
theorem NI:jm EO:=by
 refine⟨by decide,by decide,by decide,by decide,fun i=>?_⟩;match i with
 |0=>exact(by decide:(1:Nat)<2^30)
 |i+1=>exact(by decide:(0:Nat)<2^30)
theorem aae:yE uQ EO 9=(0,1,Oi,0,(yE uQ EO 9).2.2.2.2):=by kernel_rfl
theorem aaf:RG uQ EO Oi=true:=by kernel_rfl
theorem FP:FI Oi:=by
 intro x hx;simp only[Oi,br,eB,or_false] at hx;rcases hx with rfl|rfl|rfl|rfl<;>exact(by decide:(3:Nat)<2^30)
theorem ah.weak{P:Program}{dr:Bool}{f:FuncId}{args args':List V}{res:V}{h:Hz}{n:Nat}{K:V->Hz->Prop}{KW:Nat->V->Hz->Prop}(S:aj P f args' res)(hs:T.dF (fun _=>False) h.ay (V.aU args') (V.aU args))(hr:res.free=true)(hK:K res h):ah P dr none f args h n K KW :=
 ⟨.inl (CO.use S hs ⟨res,h,rfl,rfl,fun _=>⟨rfl,V.o9 res hr⟩,hK⟩)⟩
theorem ah.on{P:Program}{f:FuncId}{args:List V}{h:Hz}{n:Nat}{K:V->Hz->Prop}{KW':Nat->V->Hz->Prop}(H:ah P false none f args h n K fun _ _ _=>False):ah P false (some true) f args h n K KW':=by
 rcases H.ok with H|⟨_,_,k,⟨_,_,_,_,_,_,hk⟩,_⟩|⟨_,e,_⟩
 ·exact⟨.inl (.inr ⟨rfl,fun _=>aP.mono H fun t hp ⟨v,h',a,b,_,c⟩=>⟨v,h',a,b,c⟩,fun e=>by cases e⟩)⟩
 ·exact hk.elim
 ·cases e
set_option maxHeartbeats 1000000 in
theorem S.afo:aj Tryz.prog 10 [] (.bool true):=by
 refine aj.of Bd.FQ (by simp) rfl rfl ?_;refine ah.pure S.NH rfl ?_;refine ah.pure S.DN rfl ?_;refine ah.pure (S.oQ uQ EO 9 JL NI) rfl ?_;rw[aae];generalize (yE uQ EO 9).2.2.2.2=rd;repeat(refine VC.mk (by first|exact id|exact fun h=>⟨h,h⟩|(intro h; simp only[h,ga]; done)) ?_)
 have hsame:aj Tryz.prog 9 [.row 3 false (.elems Oi),.row 3 true (.elems Oi)] (.bool true):=by
  have:=S.uT Oi Oi false true (by decide) (by decide) FP.E FP.E;rwa [cJ rfl] at this
 refine ah.on (ah.weak hsame ⟨aC _,⟨.inr ⟨⟨⟨aC _,vI,trivial⟩,⟨aC _,vI,trivial⟩,⟨aC _,vI,trivial⟩,⟨aC _,vI,trivial⟩,trivial⟩,fun t ht=>?_⟩,.inl rfl,fun h=>h⟩,trivial⟩ rfl ?_)
 ·obtain⟨x,_,rfl⟩:=av.1 ht; rfl
 repeat(refine VC.mk id ?_)
 refine ah.gW (fun _=>S.NH) rfl ?_;refine ah.gW (fun _=>S.DN) rfl ?_;refine .mk (by intro h; simp_all; done) ?_;conv=>whnf
 have aiK:aj Tryz.prog 21 [.dat (.fQ uQ),.dat (.prop EO),.row 3 false (.elems Oi)] (.bool true):=by
  have:=S.mG uQ EO Oi false JL NI (by decide) FP;rwa [aaf] at this
 refine ah.gW (fun _=>aiK) rfl ?_;refine VC.mk id ?_;exact ak.bool rfl
end Go.Proofs.YtbdbmfccbpfeoabGreatDoor
