/-
 The backward search: the program's answer. No condition.
-/
import Derived.KernelRfl
import Derived.Test.YtbdbmfccbpfeoaaGreatDoorQc
namespace Go.Proofs.YtbdbmfccbpfeoaaGreatDoor
open Go.Ab Go.Proofs
set_option maxRecDepth 100000
theorem S.UE(a b:Elem)(ha:a.counts.length<2^40)(hb:b.counts.length<2^40):aj Tryz.prog 79 [.dat (.elem a),.dat (.elem b)] (.bool (decide (a=b))):=by
 refine aj.of Bd.uj (by simp) rfl rfl ?_;refine ah.pure (S.iW a b ha hb) rfl ?_;refine ak.bool ?_;rw[cF]; simp only[ab,bo];exact lF.symm
theorem afo{a b:List Elem}{i:Nat}(hi:i<a.length)(hb:i<b.length)(h:a.take i=b.take i)(he:a.getD i default=b.getD i default):a.take (i+1)=b.take (i+1):=by
 rw[bq hi,bq hb,h,<- getD_some (d:=default) hi,<- getD_some (d:=default) hb,he]
theorem S.PZ(a b:List Elem)(f g:Bool)(ha:a.length<2^30)(hb:b.length<2^30)(sa:eG a)(sb:eG b):aj Tryz.prog 78 [.row 3 f (.elems a),.row 3 g (.elems b),.fn 79 []] (.bool (decide (a=b))):=by
 refine aj.of Bd.n78 (by simp) rfl rfl ?_;refine⟨fun h1=>?_,fun h1=>?_⟩
 ·replace h1:((a.length:Int) !=(b.length:Int))=true:=h1;refine ak.bool ?_;rw[cH];rintro rfl;simp at h1
 have hl:a.length=b.length:=by
  replace h1:((a.length:Int) !=(b.length:Int))=false:=h1
  have:(a.length:Int)=b.length:=by simpa using h1
  omega
 refine aF.objs 0 [15,16,1,2] (fun i:Nat=>[(17,.int i)]) (fun _=>[]) (fun i=>i<=a.length/\a.take i=b.take i) (fun i=>a.length-i) 0 [] rfl (by decide) (fun _=>rfl) ⟨ap _,rfl⟩ (sR rfl) trivial ?_;refine⟨(sR rfl),rfl,?_⟩;rintro i ⟨hi,he⟩;refine⟨fun h2=>?_,fun h2=>?_⟩
 ·have hi':i<a.length:=by simpa using h2
  have hib:i<b.length:=by omega
  have ea:=sa (a.getD i default) (by rw[getD_some hi']; exact bR hi');have eb:=sb (b.getD i default) (by rw[getD_some hib]; exact bR hib);repeat(refine VC.mk (by simp only[Rw.rng]; omega) ?_)
  refine ah.pure (S.UE (a.getD i default) (b.getD i default) ea eb) rfl ?_;refine⟨fun h3=>?_,fun h3=>?_⟩
  ·replace h3:(!decide (a.getD i default=b.getD i default))=true:=h3;have h3':a.getD i default≠b.getD i default:=by simpa using h3
   refine ak.bool ?_;rw[cH];rintro rfl;exact h3' rfl
  ·replace h3:(!decide (a.getD i default=b.getD i default))=false:=h3;have h3':a.getD i default=b.getD i default:=by
    rw[da] at h3;exact aq h3
   refine .mk (by simp only[okI] at *; omega) ?_;exact⟨i+1,[],⟨hi',afo hi' hib he h3'⟩,by omega,(sR rfl),(sR rfl),trivial⟩
 ·have hi':i=a.length:=by have:=aR h2; omega
  subst hi';rw[cB,hl,cB] at he;exact ak.bool (by rw[cY he])
theorem S.Xc(l:List Elem)(f:Bool)(hl:l.length<2^30):aO Tryz.prog 75 (V.aQ [.row 3 f (.elems l)]) (Hz.au []) 0 (fun t hp=>(l=[]/\t=T.nil/\hp=Hz.au [])\/(t= .own 0/\hp=Hz.au [(0,some (bT l))])):=by
 refine og.of (nx:=0) (h0:=[]) Bd.fP (by simp) ⟨_,_,.inr ⟨rfl,rfl⟩⟩ rfl rfl ?_;refine aaQ.mk (fun hz=>?_) ?_
 ·have h0:l=[]:=ai hz;refine Fork.mk (fun _=>?_) (fun q=>absurd (q.symm.trans ((rfl:true=true))) aM);exact⟨fun _=>False,id,T.nil,Hz.au [],.inl ⟨h0,rfl,rfl⟩,aG _,(fun i ob hi=>by cases hi),(fun i j hi=>by cases hi),trivial,(fun i ob hi=>by cases hi),fun i hi=>by cases hi⟩
 ·conv=>whnf
  refine Fork.mk (fun q=>absurd (q.symm.trans ((rfl:false=false))).symm aM) (fun _=>?_);refine .mk (by show(0+l.length)*32<=140737488355328/\0+l.length<=1152921504606846976; omega) ?_;exact gG.one (c:=0) (j:=5) (o:=bT l) (t:=.own 0) rfl rfl rfl nofun (.inr rfl) rfl (.eq rfl) (.inr ⟨rfl,rfl⟩)
theorem ah.Xc{h:Hz}{n:Nat}{l:List Elem}{f:Bool}{K:V->Hz->Prop}{KW:Nat->V->Hz->Prop}(hn:h.get n=none)(hl:l.length<2^30)
  (h1:l=[]->K (.row 0 true .nil) ((n,none)::h)) (h2:K (.own n) ((n,some (bT l))::h)):ah Tryz.prog false none 75 [.row 3 f (.elems l)] h n K KW:=by
 refine ah.WM [] (S.Xc l f hl) rfl rfl rfl rfl rfl trivial hn (by simp) ?_;rintro t hp (⟨a,rfl,rfl⟩|⟨rfl,rfl⟩)
 ·exact⟨.row 0 true .nil,[none],rfl,rfl,⟨rfl,trivial⟩,h1 a⟩
 ·exact⟨.own n,[some (bT l)],rfl,rfl,⟨eK some (wo rfl _).symm,trivial⟩,h2⟩
theorem S.BJ(l:List Elem)(hl:l.length<2^29)(hg: ∀ e∈l,CS e):aO Tryz.prog 77 (V.aQ [.own 0]) (Hz.au [(0,some (bT l))]) 1 (fun t hp=>t=(V.row 3 false (.elems (cO l))).aI/\hp=Hz.au []):=by
 refine aO.aiA (S.zT l 1 (by decide) hl hg) ?_;have hs: ∀ o:OV,ach (fun _=>True) (Hz.au [(1,some o)])=Hz.au []:=fun o=>by
  funext i;simp only[ach,cW];rfl
 rintro t hp (⟨rfl,rfl⟩|⟨m,rfl,rfl⟩)
 ·exact⟨fun _=>True,_,KY trivial rfl,rfl,rfl,hs _⟩
 ·exact⟨fun _=>True,_,(ak.aaO (m:=m) rfl).ok,rfl,rfl,hs _⟩
theorem ah.BJ{h:Hz}{i n:Nat}{l:List Elem}{K:V->Hz->Prop}{KW:Nat->V->Hz->Prop}(hi:h.get i=some (bT l))(hn:h.get n=none)(hin:i≠n)(hl:l.length<2^29)(hg: ∀ e∈l,CS e)
  (hK:K (.row 3 false (.elems (cO l))) ((i,none)::(n,none)::h)):ah Tryz.prog false none 77 [.own i] h n K KW:=by
 refine ah.WM [i] (S.BJ l hl hg) rfl rfl rfl rfl rfl ⟨⟨_,hi,wo rfl _⟩,trivial⟩ hn (by simp; exact hin) ?_;rintro t hp ⟨rfl,rfl⟩;exact⟨_,[none,none],rfl,JK rfl _,⟨rfl,rfl,trivial⟩,hK⟩
def mF(p:aB)(b:List Elem)(i:Nat):List Elem:=b++(b.take i).flatMap fun x=>(yU p x).2
def growE(p:aB)(b:List Elem):Option (List Elem):=bif b.any (fun x=>(yU p x).1 !=0) then none else bif decide (100<(cO (mF p b b.length)).length) then none else some (cO (mF p b b.length))
def rX(p:aB):Nat->List Elem->Nat->Option (List Elem×Nat×Bool)
 |0,b,k=>match growE p b with
  |none=>none
  |some l=>some (b,k,decide (l=b))
 |f+1,b,k=>match growE p b with
  |none=>none
  |some l=>bif decide (l=b) then some (b,k,true) else rX p f l (k+1)
theorem BK{p:aB}{f:Nat}{b:List Elem}{k:Nat}(h:growE p b=none):rX p f b k=none:=by
 cases f<;>simp only[rX,h]
theorem NC{p:aB}{f:Nat}{b:List Elem}{k:Nat}(h:growE p b=some b):rX p f b k=some (b,k,true):=by
 cases f<;>simp only[rX,h,decide_true,bS]
theorem P5{p:aB}{b l:List Elem}{k:Nat}(h:growE p b=some l)(hn:l≠b):rX p 0 b k=some (b,k,false):=by
 simp only[rX,h,cH hn]
theorem ND{p:aB}{f:Nat}{b l:List Elem}{k:Nat}(h:growE p b=some l)(hn:l≠b):rX p (f+1) b k=rX p f l (k+1):=by
 simp only[rX,h,cH hn,bB]
theorem UF{p:aB}{e:Elem}:(yU p e).1=0\/(yU p e).1=4:=by
 unfold yU;cases p.rules.any (fun r=>(zf p r e).1 !=0)
 ·cases decide (100<(cO (nT p e p.rules.length)).length)
  ·exact .inl rfl
  ·exact .inr rfl
 ·exact .inr rfl
theorem NG{p:aB}{e:Elem}:(yU p e).2.length<=100:=by
 unfold yU;cases p.rules.any (fun r=>(zf p r e).1 !=0)
 ·cases h:decide (100<(cO (nT p e p.rules.length)).length) with
  |false=>have:=aR h; show(cO _).length<=100; omega
  |true=>exact ap _
 ·exact ap _
theorem ac4{p:aB}{e x:Elem}(hF:Gs p e)(h:x∈(yU p e).2):uF p x=false:=by
 unfold yU at h;cases h1:p.rules.any (fun r=>(zf p r e).1 !=0) with
 |true=>rw[h1] at h; cases h
 |false =>
  rw[h1,bB] at h;cases h2:decide (100<(cO (nT p e p.rules.length)).length) with
  |true=>rw[h2] at h; cases h
  |false=>rw[h2,bB] at h; exact Ny hF (yu h)
theorem NH{p:aB}{b:List Elem}{i:Nat}(hi:i<b.length):mF p b (i+1)=mF p b i++(yU p (b.getD i default)).2:=by
 unfold mF;rw[bq hi,dc,getD_some hi,ax]; simp
theorem P6{p:aB}{b:List Elem}{i:Nat}:(mF p b i).length<=b.length+i*100:=by
 have: ∀ L:List Elem,(L.flatMap fun r=>(yU p r).2).length<=L.length*100:=by
  intro L;induction L with
  |nil=>simp
  |cons c L ih=>rw[en,aL,bN,eL]; have:=@NG p c; omega
 unfold mF;rw[aL];have h1:=this (b.take i);have h2:(b.take i).length*100<=i*100:=cn _ (by rw[bL]; omega);omega
def JY(p:aB)(b:List Elem):Prop:= ∀ x∈b,Gs p x
theorem Jo{p:aB}{b:List Elem}{i:Nat}(hb:JY p b):JY p (mF p b i):=by
 intro x hx;rcases cN.1 hx with hx|hx
 ·exact hb x hx
 ·obtain⟨y,hy,hx⟩:=ck.1 hx;have hF:=hb y (dj hy);exact ac1 hF (ac4 hF hx)
theorem P7{p:aB}{x:Elem}(h:Gs p x):CS x:=by
 have h1:=h.valid.states;have h2:=h.len;exact⟨by omega,fun y hy=>by have:=h.nums y hy; omega⟩
theorem aaw{p:aB}{b l:List Elem}(hb:JY p b)(h:growE p b=some l):JY p l/\l.length<=100:=by
 unfold growE at h;cases h1:b.any (fun x=>(yU p x).1 !=0) with
 |true=>rw[h1] at h; cases h
 |false =>
  rw[h1,bB] at h;cases h2:decide (100<(cO (mF p b b.length)).length) with
  |true=>rw[h2] at h; cases h
  |false =>
   rw[h2,bB] at h;cases h;exact⟨fun x hx=>Jo hb x (yu hx),by have:=aR h2; omega⟩
def UG(o:Option (List Elem×Nat×Bool)):V:=match o with
 |none=>.bU [.row 3 false (.elems []),.int 0,.bool false,.int 4]
 |some (b,k,d)=>.bU [.row 3 false (.elems b),.int k,.bool d,.int 0]
theorem P8(o:Option (List Elem×Nat×Bool)):(UG o).free=true:=by
 match o with
 |none=>rfl
 |some (b,k,d)=>rfl
theorem ak.UH{h:Hz}{a c:V}{b:Bool}:ak (.bU [.row 3 false (.elems []),a,.bool b,c]) (.bU [.row 0 true .nil,a,.bool b,c]) h:=⟨by
 show T.sub (fun _=>True) h.au (.bU [.sl 3 false [],a.aI,(V.bool b).aI,c.aI]) (.bU [.sl 0 true [],a.aI,(V.bool b).aI,c.aI]);simp only[T.sub,T.dG]
 exact⟨⟨.inl trivial,.inr trivial,fun h=>by cases h⟩,aG _,aG _,aG _,trivial⟩⟩
def JZ(p:aB)(q:Prop')(rounds:Int):Option (List Elem×Nat×Bool):=bif decide (100<(lg p q).length) then none else rX p rounds.toNat (lg p q) 0
theorem Yp{p:aB}{q:Prop'}(hc:gq p q=0):JY p (lg p q):=by
 obtain⟨_,_,b3,b4⟩:=Qh hc;have hcov:Nw p=0:=by unfold Nw; rw[show(aW p !=0)=false by simp[b3],b4]; rfl
 intro x hx;refine Rf hcov ?_;unfold lg at hx;rw[show(gq p q !=0)=false by simp[hc],bB] at hx;obtain⟨w,hw,h3⟩:=ck.1 hx;obtain⟨u,_,rfl⟩:=bA.1 h3;have hw':=cL.1 hw;unfold uF;have hl:(pG p.states.length u).length=p.states.length:=jD;have hall:(pG p.states.length u).all EH=true:=by
  rw[cA];intro y hy;have:=Gy y hy;cases hk:EH y with
  |true=>rfl
  |false =>
   have h:=afp (x:=y);rw[hk] at h;simp only[gE,cS,ab] at h;omega
 show(((((pG p.states.length u).length:Int) !=p.states.length)|| !((pG p.states.length u).all EH))||decide ((w:Int)<0)||decide ((w:Int)>=max 1 (p.values.length:Int)))=false;rw[hl,hall,cH (by omega: ¬ (w:Int)<0),cH (by omega: ¬ (w:Int)>=max 1 (p.values.length:Int))];simp
set_option maxHeartbeats 2000000 in
theorem S.o7(p:aB)(q:Prop')(rounds:Int)(hp:dJ p)(hq:uN q)(hc:gq p q=0)(hr:rounds<2^40):aj Tryz.prog 46 [.dat (.fM p),.dat (.prop q),.int rounds] (UG (JZ p q rounds)):=by
 have hbf:=Yp hc;obtain⟨l1,l2⟩:=JB p q hp;obtain⟨_,b2,b3,_⟩:=Qh hc;have hv:=CP b3;have v1:=hv.pos; have v2:=hv.states; have v3:=hv.values;have hbad:lg p q=cO (xZ q p.states.length (max 1 p.values.length) (4 ^ p.states.length)):=by rw[lg,show(gq p q !=0)=false by simp[hc],bad_law]; rfl
 generalize hres:UG (JZ p q rounds)=res;refine aj.of Bd.o7 (by simp) rfl (by rw[<- hres]; exact P8 _) ?_;refine ah.pure (S.jg p q p.states.length (max 1 p.values.length) hp hq rfl v1 v2 rfl (by omega) b2) rfl ?_;conv=>whnf
 rw[<- hbad];by_cases aiJ:100<(lg p q).length
 ·have hB:JZ p q rounds=none:=by unfold JZ; rw[cY aiJ]; rfl
  refine aF.times 1 rfl ?_;refine Fork.mk (fun _=>?_) (fun q=>absurd (q.symm.trans (cY (by omega))) aM);conv=>whnf
  rw[<- hres,hB];exact ak.UH
 have hB:JZ p q rounds=rX p rounds.toNat (lg p q) 0:=by unfold JZ; rw[cH aiJ]; rfl
 refine aF.objs 4 [2,3,4] (fun x:Nat×List Elem=>[(11,.int x.1),(10,.row 3 false (.elems x.2))]) (fun _=>[(0,EN p),(1,Rh q)]) (fun x=>x.2.length<=100/\JY p x.2/\UG (rX p (rounds-(x.1:Int)).toNat x.2 x.1)=res) (fun x=>(rounds-(x.1:Int)).toNat) (0,lg p q) [0,1] rfl (by decide) (fun _=>rfl) ⟨by show(lg p q).length<=100; omega,hbf,by rw[<- hres,hB]; show UG (rX p (rounds-((0:Nat):Int)).toNat _ _)=_; rw[show rounds-((0:Nat):Int)=rounds by omega]⟩ (sR rfl) ⟨gK rfl rfl,gK rfl rfl,trivial⟩ ?_;refine⟨(sR rfl),rfl,?_⟩;rintro⟨k,b⟩ ⟨ac5,hfit,hR⟩;replace ac5:b.length<=100:=ac5;replace hfit:JY p b:=hfit;replace hR:UG (rX p (rounds-(k:Int)).toNat b k)=res:=hR;refine Fork.mk (fun q=>absurd (q.symm.trans (cH (show ¬ 100<(b.length:Int) by omega))).symm aM) (fun _=>?_);refine ah.Xc rfl (show b.length<2^30 by omega) (fun h0=>?_) ?_
 ·replace h0:b=[]:=h0;refine aF.nil 12 40 3 (by rfl) rfl rfl rfl ?_;refine aF.objs 4 [27,28,10,11,2,3,4] (fun i:Nat=>[(29,.int i),(12,.own 2)]) (fun i=>[(0,EN p),(1,Rh q),(2,bT (mF p b i))]) (fun i=>i<=b.length/\(b.take i).any (fun x=>(yU p x).1 !=0)=false) (fun i=>b.length-i) 0 [0,1,13] rfl (by decide) (fun _=>rfl) ⟨ap _,rfl⟩ (sR rfl) ⟨gK rfl rfl,gK rfl rfl,⟨rfl,nofun,rfl,rfl,rfl,_,rfl,rfl,rfl,dH.of_eq (by rw[h0]; rfl)⟩,trivial⟩ ?_;refine⟨(sR rfl),rfl,?_⟩;rintro i ⟨hi,hno⟩;have hgl:=P6 (p:=p) (b:=b) (i:=i);refine⟨fun h2=>?_,fun h2=>?_⟩
  ·have hi':i<b.length:=by simpa using h2
   have hmem:b.getD i default∈b:=by rw[getD_some hi']; exact bR hi'
   have hFx:=hfit _ hmem;have hst:=NH (p:=p) hi';have hpl:=@NG p (b.getD i default);have hpe:=@UF p (b.getD i default);refine .mk (by simp only[Rw.rng] at *; omega) ?_;refine ah.pure (S.xI p (b.getD i default) hp hFx) rfl ?_;generalize hQ:yU p (b.getD i default)=Q at hst hpl hpe;refine⟨fun h3=>?_,fun h3=>?_⟩
   ·replace h3:(Q.1 !=0)=true:=h3;have h4:Q.1=4:=by
     rcases hpe with h|h
     ·rw[h] at h3; cases h3
     ·exact h
    have hnone:growE p b=none:=by
     unfold growE;rw[di.2 ⟨_,hmem,by rw[hQ]; exact h3⟩]; rfl
    conv=>whnf
    rw[<- hR,BK hnone,h4];exact ak.UH
   ·replace h3:(Q.1 !=0)=false:=h3;repeat(refine VC.mk (by first|(show((mF p b i).length+Q.2.length)*32<=140737488355328/\(mF p b i).length+Q.2.length<=1152921504606846976; omega)|(simp only[okI] at *; omega)) ?_)
    refine⟨i+1,[0,1,21],⟨hi',?_⟩,by omega,(sR rfl),(sR rfl),gK rfl rfl,gK rfl rfl,⟨rfl,nofun,rfl,rfl,rfl,_,rfl,rfl,rfl,dH.of_eq (by rw[hst])⟩,trivial⟩;rw[bq hi',dz,hno,cv,<- getD_some (d:=default) hi'];show((yU p (b.getD i default)).1 !=0||false)=false;rw[hQ,h3]; rfl
  have hi':i=b.length:=by replace h2:decide ((i:Int)<(b.length:Int))=false:=h2; have:=aR h2; omega
  subst hi';rw[cB] at hno;have hgr:growE p b=bif decide (100<(cO (mF p b b.length)).length) then none else some (cO (mF p b b.length)):=by unfold growE; rw[hno]; rfl
  have hgf:=Jo (i:=b.length) hfit;refine ah.BJ rfl rfl (by decide) (by omega) (fun x hx=>P7 (hgf x hx)) ?_;have hml:=FH (mF p b b.length);have hnf:JY p (cO (mF p b b.length)):=fun x hx=>hgf x (yu hx)
  generalize hM:cO (mF p b b.length)=M at hgr hml hnf;refine⟨fun h3=>?_,fun h3=>?_⟩
  ·replace h3:decide (100<(M.length:Int))=true:=h3;have:=aq h3;rw[cY (by omega:100<M.length),bS] at hgr;conv=>whnf
   rw[<- hR,BK hgr];exact ak.UH
  replace h3:decide (100<(M.length:Int))=false:=h3;have aiK:=aR h3;rw[cH (by omega: ¬ 100<M.length),bB] at hgr;refine ah.pure (S.PZ M b false false (by omega) (by omega) (fun x hx=>by have:=(hnf x hx).len; have:=(hnf x hx).valid.states; omega) (fun x hx=>by have:=(hfit x hx).len; have:=(hfit x hx).valid.states; omega)) rfl ?_;refine⟨fun h4=>?_,fun h4=>?_⟩
  ·have YZ:M=b:=aq h4;rw[YZ] at hgr;conv=>whnf
   rw[<- hR,NC hgr];exact ak.eqv rfl
  have YZ:M≠b:=aR h4;refine⟨fun h5=>?_,fun h5=>?_⟩
  ·have hkr:(rounds-(k:Int)).toNat=0:=by have:=aq h5; omega
   conv=>whnf
   rw[<- hR,hkr,P5 hgr YZ];exact ak.eqv rfl
  ·have hkr:(rounds-(k:Int)).toNat=(rounds-((k+1:Nat):Int)).toNat+1:=by have:=aR h5; omega
   refine .mk (by simp only[okI] at *; omega) ?_;refine⟨(k+1,M),[0,1],⟨by show M.length<=100; omega,hnf,?_⟩,?_,(sR rfl),(sR rfl),gK rfl rfl,gK rfl rfl,trivial⟩
   ·show UG (rX p (rounds-((k+1:Nat):Int)).toNat M (k+1))=res;rw[<- hR,hkr,ND hgr YZ]
   ·show(rounds-((k+1:Nat):Int)).toNat<(rounds-(k:Int)).toNat;omega
 ·conv=>whnf
  refine aF.objs 4 [27,28,10,11,2,3,4] (fun i:Nat=>[(29,.int i),(12,.own 2)]) (fun i=>[(0,EN p),(1,Rh q),(2,bT (mF p b i))]) (fun i=>i<=b.length/\(b.take i).any (fun x=>(yU p x).1 !=0)=false) (fun i=>b.length-i) 0 [0,1,8] rfl (by decide) (fun _=>rfl) ⟨ap _,rfl⟩ (sR rfl) ⟨gK rfl rfl,gK rfl rfl,⟨rfl,nofun,rfl,rfl,rfl,_,rfl,rfl,rfl,dH.of_eq (by unfold mF; simp)⟩,trivial⟩ ?_;refine⟨(sR rfl),rfl,?_⟩;rintro i ⟨hi,hno⟩;have hgl:=P6 (p:=p) (b:=b) (i:=i);refine⟨fun h2=>?_,fun h2=>?_⟩
  ·have hi':i<b.length:=by simpa using h2
   have hmem:b.getD i default∈b:=by rw[getD_some hi']; exact bR hi'
   have hFx:=hfit _ hmem;have hst:=NH (p:=p) hi';have hpl:=@NG p (b.getD i default);have hpe:=@UF p (b.getD i default);refine .mk (by simp only[Rw.rng] at *; omega) ?_;refine ah.pure (S.xI p (b.getD i default) hp hFx) rfl ?_;generalize hQ:yU p (b.getD i default)=Q at hst hpl hpe;refine⟨fun h3=>?_,fun h3=>?_⟩
   ·replace h3:(Q.1 !=0)=true:=h3;have h4:Q.1=4:=by
     rcases hpe with h|h
     ·rw[h] at h3; cases h3
     ·exact h
    have hnone:growE p b=none:=by
     unfold growE;rw[di.2 ⟨_,hmem,by rw[hQ]; exact h3⟩]; rfl
    conv=>whnf
    rw[<- hR,BK hnone,h4];exact ak.UH
   ·replace h3:(Q.1 !=0)=false:=h3;repeat(refine VC.mk (by first|(show((mF p b i).length+Q.2.length)*32<=140737488355328/\(mF p b i).length+Q.2.length<=1152921504606846976; omega)|(simp only[okI] at *; omega)) ?_)
    refine⟨i+1,[0,1,21],⟨hi',?_⟩,by omega,(sR rfl),(sR rfl),gK rfl rfl,gK rfl rfl,⟨rfl,nofun,rfl,rfl,rfl,_,rfl,rfl,rfl,dH.of_eq (by rw[hst])⟩,trivial⟩;rw[bq hi',dz,hno,cv,<- getD_some (d:=default) hi'];show((yU p (b.getD i default)).1 !=0||false)=false;rw[hQ,h3]; rfl
  have hi':i=b.length:=by replace h2:decide ((i:Int)<(b.length:Int))=false:=h2; have:=aR h2; omega
  subst hi';rw[cB] at hno;have hgr:growE p b=bif decide (100<(cO (mF p b b.length)).length) then none else some (cO (mF p b b.length)):=by unfold growE; rw[hno]; rfl
  have hgf:=Jo (i:=b.length) hfit;refine ah.BJ rfl rfl (by decide) (by omega) (fun x hx=>P7 (hgf x hx)) ?_;have hml:=FH (mF p b b.length);have hnf:JY p (cO (mF p b b.length)):=fun x hx=>hgf x (yu hx)
  generalize hM:cO (mF p b b.length)=M at hgr hml hnf;refine⟨fun h3=>?_,fun h3=>?_⟩
  ·replace h3:decide (100<(M.length:Int))=true:=h3;have:=aq h3;rw[cY (by omega:100<M.length),bS] at hgr;conv=>whnf
   rw[<- hR,BK hgr];exact ak.UH
  replace h3:decide (100<(M.length:Int))=false:=h3;have aiK:=aR h3;rw[cH (by omega: ¬ 100<M.length),bB] at hgr;refine ah.pure (S.PZ M b false false (by omega) (by omega) (fun x hx=>by have:=(hnf x hx).len; have:=(hnf x hx).valid.states; omega) (fun x hx=>by have:=(hfit x hx).len; have:=(hfit x hx).valid.states; omega)) rfl ?_;refine⟨fun h4=>?_,fun h4=>?_⟩
  ·have YZ:M=b:=aq h4;rw[YZ] at hgr;conv=>whnf
   rw[<- hR,NC hgr];exact ak.eqv rfl
  have YZ:M≠b:=aR h4;refine⟨fun h5=>?_,fun h5=>?_⟩
  ·have hkr:(rounds-(k:Int)).toNat=0:=by have:=aq h5; omega
   conv=>whnf
   rw[<- hR,hkr,P5 hgr YZ];exact ak.eqv rfl
  ·have hkr:(rounds-(k:Int)).toNat=(rounds-((k+1:Nat):Int)).toNat+1:=by have:=aR h5; omega
   refine .mk (by simp only[okI] at *; omega) ?_;refine⟨(k+1,M),[0,1],⟨by show M.length<=100; omega,hnf,?_⟩,?_,(sR rfl),(sR rfl),gK rfl rfl,gK rfl rfl,trivial⟩
   ·show UG (rX p (rounds-((k+1:Nat):Int)).toNat M (k+1))=res;rw[<- hR,hkr,ND hgr YZ]
   ·show(rounds-((k+1:Nat):Int)).toNat<(rounds-(k:Int)).toNat;omega
def bkX(p:aB)(q:Prop')(rounds:Int):Int×List Elem×Bool:=bif gq p q !=0 then(gq p q,[],false) else bif decide (100<rounds) then(1,[],false) else match JZ p q rounds with
 |none=>(4,[],false)
 |some (b,_,d)=>(0,b,d)
def afq(p:aB)(q:Prop')(s:Int×Int)(x:Elem):Int×Int:=bif Gx p q x&&(s.1==1||decide (dS x<s.2)) then(2,dS x) else s
def J3(p:aB)(q:Prop')(b:List Elem)(i:Nat):Int×Int:=(b.take i).foldl (afq p q) (1,0)
theorem aax{p:aB}{q:Prop'}{b:List Elem}{i:Nat}(hi:i<b.length):J3 p q b (i+1)=afq p q (J3 p q b i) (b.getD i default):=by
 unfold J3;rw[bq hi,eJ,getD_some hi]; rfl
def Ri(p:aB)(q:Prop')(rounds:Int):Int×Int×List Elem×Int×Int:=bif gq p q !=0 then(gq p q,0,[],0,0) else bif decide (100<rounds) then(1,0,[],0,0) else match JZ p q rounds with
 |none=>(4,0,[],0,0)
 |some (b,k,d)=>bif d then(0,(J3 p q b b.length).1,b,(J3 p q b b.length).2,k) else(0,0,[],0,k)
def aiL(x:Int×Int×List Elem×Int×Int):V:=.bU [.agg [.int x.2.1,.row 3 false (.elems x.2.2.1),.int x.2.2.2.1,.int x.2.2.2.2],.int x.1]
theorem ak.afr{h:Hz}{a c d e:V}:ak (.bU [.agg [a,.row 3 false (.elems []),c,d],e]) (.bU [.agg [a,.row 0 true .nil,c,d],e]) h:=⟨by
 show T.sub (fun _=>True) h.au (.bU [.agg [a.aI,.sl 3 false [],c.aI,d.aI],e.aI]) (.bU [.agg [a.aI,.sl 0 true [],c.aI,d.aI],e.aI]);simp only[T.sub,T.dG]
 exact⟨⟨aG _,⟨.inl trivial,.inr trivial,fun h=>by cases h⟩,aG _,aG _,trivial⟩,aG _,trivial⟩⟩
abbrev boxS(a:Int)(b:List Elem)(c d:Int):OV:=.box 63 5 (.agg [.int a,.row 3 false (.elems b),.int c,.int d])
theorem ac6{p:aB}{q:Prop'}{rounds:Int}{b:List Elem}{k:Nat}{d:Bool}(hc:gq p q=0)(h:JZ p q rounds=some (b,k,d)):JY p b/\b.length<=100:=by
 unfold JZ at h;cases h1:decide (100<(lg p q).length) with
 |true=>rw[h1] at h; cases h
 |false =>
  rw[h1,bB] at h
  have: ∀ f b0 k0,JY p b0->b0.length<=100->rX p f b0 k0=some (b,k,d)->JY p b/\b.length<=100:=by
   intro f;induction f with
   |zero =>
    intro b0 k0 h1 h2 h3;simp only[rX] at h3;split at h3
    ·cases h3
    ·cases h3; exact⟨h1,h2⟩
   |succ f ih =>
    intro b0 k0 h1 h2 h3;simp only[rX] at h3;split at h3
    ·cases h3
    ·rename_i l hl;obtain⟨g1,g2⟩:=aaw h1 hl;cases he:decide (l=b0) with
     |true=>rw[he] at h3; cases h3; exact⟨h1,h2⟩
     |false=>rw[he] at h3; exact ih l _ g1 g2 h3
  exact this _ _ _ (Yp hc) (by have:=aR h1; omega) h
set_option maxHeartbeats 1000000 in
theorem S.wz(p:aB)(q:Prop')(rounds:Int)(hp:dJ p)(hq:uN q):aj Tryz.prog 16 [.dat (.fM p),.dat (.prop q),.int rounds] (aiL (Ri p q rounds)):=by
 generalize hres:aiL (Ri p q rounds)=res;refine aj.of Bd.wz (by simp) rfl (by rw[<- hres]; rfl) ?_;refine ah.pure (S.oK p q hp hq) rfl ?_;refine⟨fun h1=>?_,fun h1=>?_⟩
 ·replace h1:(gq p q !=0)=true:=h1;conv=>whnf
  rw[<- hres,Ri,h1];exact ak.afr
 replace h1:(gq p q !=0)=false:=h1;refine⟨fun h2=>?_,fun h2=>?_⟩
 ·replace h2:decide (100<rounds)=true:=h2;conv=>whnf
  rw[<- hres,Ri,h1,h2];exact ak.afr
 replace h2:decide (100<rounds)=false:=h2;have hr:=aR h2;have hX:Ri p q rounds=match JZ p q rounds with
  |none=>(4,0,[],0,0)
  |some (b,k,d)=>bif d then(0,(J3 p q b b.length).1,b,(J3 p q b b.length).2,k) else(0,0,[],0,k):=by rw[Ri,h1,h2]; rfl
 refine ah.pure (S.o7 p q rounds hp hq (EP h1) (by omega)) (P8 _) ?_;match hs:JZ p q rounds with
 |none =>
  rw[hs] at hX;refine Fork.mk (fun _=>?_) (fun q=>absurd (q.symm.trans (rfl)) aM);conv=>whnf
  rw[<- hres,hX];exact ak.afr
 |some (b,k,false) =>
  rw[hs] at hX;refine Fork.mk (fun q=>absurd (q.symm.trans (rfl)).symm aM) (fun _=>?_);refine Fork.mk (fun _=>?_) (fun q=>absurd (q.symm.trans (rfl)) aM);conv=>whnf
  rw[<- hres,hX];exact ak.afr
 |some (b,k,true) =>
  rw[hs] at hX;obtain⟨hfit,ac5⟩:=ac6 (EP h1) hs;refine Fork.mk (fun q=>absurd (q.symm.trans (rfl)).symm aM) (fun _=>?_);refine Fork.mk (fun q=>absurd (q.symm.trans (rfl)).symm aM) (fun _=>?_);refine aF.objs 4 [47,48,3,4,6] (fun i:Nat=>[(49,.int i),(13,.ptr 3 0 0)]) (fun i=>[(0,EN p),(1,Rh q),(2,.box 63 5 (.agg [.int 0,.row 0 true .nil,.int 0,.int 0])),(3,boxS (J3 p q b i).1 b (J3 p q b i).2 k)]) (fun i=>i<=b.length) (fun i=>b.length-i) 0 [0,1,2,32] rfl (by decide) (fun _=>rfl) (ap _) (sR rfl) ⟨gK rfl rfl,gK rfl rfl,gK rfl rfl,gK rfl rfl,trivial⟩ ?_;refine⟨(sR rfl),rfl,?_⟩;rintro i hi;refine⟨fun h3=>?_,fun h3=>?_⟩
  ·have hi':i<b.length:=by simpa using h3
   have hst:=aax (p:=p) (q:=q) hi';have hF:=hfit (b.getD i default) (by rw[getD_some hi']; exact bR hi');have hle:(b.getD i default).counts.length<2^30:=by have:=hF.len; have:=hF.valid.states; omega
   refine .mk (by simp only[Rw.rng] at *; omega) ?_;refine ah.pure (S.oL (b.getD i default) (by omega)) rfl ?_;refine ah.pure (S.nK p q (b.getD i default) hp hq hle (Fv (EP h1))) rfl ?_;generalize hS:J3 p q b i=s at hst;repeat(refine VC.mk (by first|exact id|exact fun h=>⟨h,h⟩|(intro h; simp_all; done)) ?_)
   refine⟨fun h4=>?_,fun h4=>?_⟩
   ·replace h4:(Gx p q (b.getD i default)&&(s.1==1||decide (dS (b.getD i default)<s.2)))=true:=h4;have hst':J3 p q b (i+1)=(2,dS (b.getD i default)):=by rw[hst,afq,h4]; rfl
    refine .mk (by simp only[okI] at *; omega) ?_;exact⟨i+1,[0,1,2,3],hi',by omega,(sR rfl),(sR rfl),gK rfl rfl,gK rfl rfl,gK rfl rfl,⟨rfl,nofun,rfl,rfl,rfl,_,rfl,rfl,rfl,dH.of_eq (by rw[hst']; rfl)⟩,trivial⟩
   ·replace h4:(Gx p q (b.getD i default)&&(s.1==1||decide (dS (b.getD i default)<s.2)))=false:=h4;have hst':J3 p q b (i+1)=s:=by rw[hst,afq,h4]; rfl
    refine .mk (by simp only[okI] at *; omega) ?_;exact⟨i+1,[0,1,2,3],hi',by omega,(sR rfl),(sR rfl),gK rfl rfl,gK rfl rfl,gK rfl rfl,⟨rfl,nofun,rfl,rfl,rfl,_,rfl,rfl,rfl,dH.of_eq (by rw[hst'])⟩,trivial⟩
  ·have hi':i=b.length:=by have:=aR h3; omega
   subst hi';conv=>whnf
   rw[<- hres,hX];exact ak.eqv rfl
def Jp(name:Str)(fr tt read write:Int):Rule:=⟨name,1,fr,tt,0,0,[],[],[],[],read,write,[],0,[],[],[],0⟩
def vg:aB:=⟨[109,120],1,[[105],[119],[99]],[],[[102,114,101,101],[104,101,108,100]],0,[],[0],[],[Jp [97,115,107] 0 1 (-1) (-1),Jp [116,97,107,101] 1 2 0 1,Jp [108,101,97,118,101] 2 0 1 0]⟩
def Fh:Prop':=⟨[101,120],1,[],[⟨[2],2⟩],[],[]⟩
theorem BL{name:Str}{fr tt read write:Int}(_h:name.length<2^30):sN (Jp name fr tt read write):=by
 constructor<;>simp[Jp]
theorem JL:dJ vg:=by
 refine⟨by decide,by decide,by decide,by decide,by decide,by decide,by decide,fun i=>?_,by decide⟩;match i with
 |0=>exact BL (by decide)
 |1=>exact BL (by decide)
 |2=>exact BL (by decide)
 |i+3=>constructor<;>exact(by decide:(0:Nat)<2^30)
def Il:V:=.row 0 true .nil
def Yq(name:Str)(fr tt rd wr:Int):V:=.agg [.str name,.int 1,.int fr,.int tt,.int 0,.int 0,Il,Il,Il,Il,.int rd,.int wr,Il,.int 0,Il,Il,Il,.int 0]
def ac7:V:=.agg [.str vg.name,.int 1,.row 0 false (.strs vg.states),Il,.row 0 false (.strs vg.values),.int 0,Il,.row 0 false (.ints [0]),Il,.Cj 19 false [Yq [97,115,107] 0 1 (-1) (-1),Yq [116,97,107,101] 1 2 0 1,Yq [108,101,97,118,101] 2 0 1 0]]
theorem wB{Z:Nat->Prop}{h:Hp}{k:Nat}{l:List T}:T.sub Z h (.sl k false l) (.sl k true l):=⟨.inl rfl,.inl rfl,fun h=>by cases h⟩
theorem oz{Z:Nat->Prop}{h:Hp}{k:Nat}:T.sub Z h (.sl k false []) T.nil:=⟨.inl rfl,.inr rfl,fun h=>by cases h⟩
theorem aj.weak{P:Program}{f:FuncId}{args:List V}{a b:V}(S:aj P f args a)(hs:T.sub (fun _=>True) no b.aI a.aI)(hb:b.free=true):aj P f args b :=
 zL.shut S (fun _=>hs) (V.iZ b hb)
theorem NI{Z:Nat->Prop}{h:Hp}{name:Str}{fr tt rd wr:Int}:T.sub Z h (Hl (Jp name fr tt rd wr)) (Yq name fr tt rd wr).aI:=by
 refine⟨aG _,aG _,aG _,aG _,aG _,aG _,oz,oz,oz,oz,aG _,aG _,oz,aG _,oz,oz,oz,aG _,trivial⟩
theorem aay:T.sub (fun _=>True) no (XM vg) ac7.aI:=by
 refine⟨aG _,aG _,aG _,oz,aG _,aG _,oz,aG _,oz,⟨.inr ⟨⟨NI,NI,NI,trivial⟩,fun t ht=>?_⟩,.inl rfl,fun h=>h⟩,trivial⟩;obtain⟨x,_,rfl⟩:=bA.1 ht; rfl
theorem Yr{Z:Nat->Prop}{h:Hp}{k i ty:Nat}{l:List T}(hz:Z i)(hf:T.bG l=true)(hk:k≠iE)(q:h i=some ⟨ty,k,l⟩):T.sub Z h (.sl k false l) (.own i):=⟨rfl,hz,hf,hk,ty,q⟩
theorem S.NJ:aj Tryz.prog 17 [] (.dat (.fM vg)):=by
 refine aj.weak (a:=ac7) ?_ aay rfl;refine aj.of Bd.nU (by simp) rfl rfl ?_;refine⟨⟨aG _,aG _,wB,aG _,wB,aG _,aG _,wB,aG _,Yr trivial rfl (by decide) rfl,trivial⟩⟩
def aiM:V:=.agg [.str Fh.name,.int 1,Il,.Cj 3 false [.agg [.row 0 true (.ints [2]),.int 2]],Il,Il]
theorem S.DV:aj Tryz.prog 18 [] (.dat (.prop Fh)):=by
 refine aj.weak (a:=aiM) ?_ ?_ rfl
 ·refine aj.of Bd.kM (by simp) rfl rfl ?_;exact⟨⟨aG _,aG _,aG _,Yr trivial rfl (by decide) rfl,aG _,aG _,trivial⟩⟩
 ·refine⟨aG _,aG _,oz,⟨.inr ⟨⟨⟨wB,aG _,trivial⟩,trivial⟩,fun t ht=>?_⟩,.inl rfl,fun h=>h⟩,oz,oz,trivial⟩;obtain⟨x,_,rfl⟩:=bA.1 ht; rfl
def Oz:List Elem:=[⟨0,[0,0,2]⟩,⟨0,[0,1,1]⟩,⟨0,[1,0,1]⟩,⟨1,[0,0,2]⟩]
theorem NK:uN Fh:=by
 refine⟨by decide,by decide,by decide,by decide,fun i=>?_⟩;match i with
 |0=>exact(by decide:(1:Nat)<2^30)
 |i+1=>exact(by decide:(0:Nat)<2^30)
theorem aaz:Ri vg Fh 9=(0,1,Oz,0,(Ri vg Fh 9).2.2.2.2):=by kernel_rfl
theorem aaA:aav vg Fh Oz=true:=by kernel_rfl
theorem F8:F7 Oz:=by
 intro x hx;simp only[Oz,bm,du,gR] at hx;rcases hx with rfl|rfl|rfl|rfl<;>exact(by decide:(3:Nat)<2^30)
theorem ah.weak{P:Program}{dr:Bool}{f:FuncId}{args args':List V}{res:V}{h:Hz}{n:Nat}{K:V->Hz->Prop}{KW:Nat->V->Hz->Prop}(S:aj P f args' res)(hs:T.dG (fun _=>False) h.au (V.aQ args') (V.aQ args))(hr:res.free=true)(hK:K res h):ah P dr none f args h n K KW :=
 ⟨.inl (zL.use S hs ⟨res,h,rfl,rfl,fun _=>⟨rfl,V.iZ res hr⟩,hK⟩)⟩
theorem ah.on{P:Program}{f:FuncId}{args:List V}{h:Hz}{n:Nat}{K:V->Hz->Prop}{KW':Nat->V->Hz->Prop}(H:ah P false none f args h n K fun _ _ _=>False):ah P false (some true) f args h n K KW':=by
 rcases H.ok with H|⟨_,_,k,⟨_,_,_,_,_,_,hk⟩,_⟩|⟨_,e,_⟩
 ·exact⟨.inl (.inr ⟨rfl,fun _=>aO.mono H fun t hp ⟨v,h',a,b,_,c⟩=>⟨v,h',a,b,c⟩,fun e=>by cases e⟩)⟩
 ·exact hk.elim
 ·cases e
set_option maxHeartbeats 1000000 in
theorem S.ac8:aj Tryz.prog 6 [] (.bool true):=by
 refine aj.of Bd.F9 (by simp) rfl rfl ?_;refine ah.pure S.NJ rfl ?_;refine ah.pure S.DV rfl ?_;refine ah.pure (S.wz vg Fh 9 JL NK) rfl ?_;rw[aaz];generalize (Ri vg Fh 9).2.2.2.2=rd;repeat(refine VC.mk (by first|exact id|exact fun h=>⟨h,h⟩|(intro h; simp only[h,gH]; done)) ?_)
 have hsame:aj Tryz.prog 12 [.row 3 false (.elems Oz),.row 3 true (.elems Oz)] (.bool true):=by
  have:=S.zX Oz Oz false true (by decide) (by decide) F8.E F8.E;rwa [cY rfl] at this
 refine ah.on (ah.weak hsame ⟨aG _,⟨.inr ⟨⟨⟨aG _,wB,trivial⟩,⟨aG _,wB,trivial⟩,⟨aG _,wB,trivial⟩,⟨aG _,wB,trivial⟩,trivial⟩,fun t ht=>?_⟩,.inl rfl,fun h=>h⟩,trivial⟩ rfl ?_)
 ·obtain⟨x,_,rfl⟩:=bA.1 ht; rfl
 repeat(refine VC.mk id ?_)
 refine ah.eY (fun _=>S.NJ) rfl ?_;refine ah.eY (fun _=>S.DV) rfl ?_;refine .mk (by intro h; simp_all; done) ?_;conv=>whnf
 have ajE:aj Tryz.prog 19 [.dat (.fM vg),.dat (.prop Fh),.row 3 false (.elems Oz)] (.bool true):=by
  have:=S.lU vg Fh Oz false JL NK (by decide) F8;rwa [aaA] at this
 refine ah.eY (fun _=>ajE) rfl ?_;refine VC.mk id ?_;exact ak.bool rfl
end Go.Proofs.YtbdbmfccbpfeoaaGreatDoor
