/-
 The backward search: the program's answer. No condition.
-/
import Derived.KernelRfl
import Derived.Test.YtkmldgihhaooaaaGreatDoorQc
namespace Go.Proofs.YtkmldgihhaooaaaGreatDoor
open Go.Ab Go.Proofs
set_option maxRecDepth 100000
theorem S.RH(a b:Elem)(ha:a.counts.length<2^40)(hb:b.counts.length<2^40):aj Tryz.prog 94 [.dat (.elem a),.dat (.elem b)] (.bool (decide (a=b))):=by
 refine aj.of Bd.rP (by simp) rfl rfl ?_
 conv=>whnf
 refine ah.pure (S.iT a b ha hb) rfl ?_
 conv=>whnf
 refine ak.bool ?_
 rw[Bool.eq_iff_iff]; simp only[decide_eq_true_eq,beq_iff_eq]
 exact lV.symm
theorem acw{a b:List Elem}{i:Nat}(hi:i<a.length)(hb:i<b.length)(h:a.take i=b.take i)(he:a.getD i default=b.getD i default):a.take (i+1)=b.take (i+1):=by
 rw[List.take_succ_eq_append_getElem hi,List.take_succ_eq_append_getElem hb,h,<- getD_some (d:=default) hi,<- getD_some (d:=default) hb,he]
theorem S.Nw(a b:List Elem)(f g:Bool)(ha:a.length<2^30)(hb:b.length<2^30)(sa:fC a)(sb:fC b):aj Tryz.prog 93 [.row 3 f (.elems a),.row 3 g (.elems b),.fn 94 []] (.bool (decide (a=b))):=by
 refine aj.of Bd.n93 (by simp) rfl rfl ?_
 conv=>whnf
 refine⟨fun h1=>?_,fun h1=>?_⟩
 ·replace h1:((a.length:Int) !=(b.length:Int))=true:=h1
  conv=>whnf
  refine ak.bool ?_
  rw[decide_eq_false]
  rintro rfl
  simp at h1
 have hl:a.length=b.length:=by
  replace h1:((a.length:Int) !=(b.length:Int))=false:=h1
  have:(a.length:Int)=b.length:=by simpa using h1
  omega
 conv=>whnf
 refine aH.objs 0 [15,16,1,2] (fun i:Nat=>[(17,.int i)]) (fun _=>[]) (fun i=>i<=a.length/\a.take i=b.take i) (fun i=>a.length-i) 0 [] rfl (by decide) (fun _=>rfl) ⟨Nat.zero_le _,rfl⟩ (sR rfl) trivial ?_
 conv=>whnf
 refine⟨(sR rfl),rfl,?_⟩
 rintro i ⟨hi,he⟩
 conv=>whnf
 refine⟨fun h2=>?_,fun h2=>?_⟩
 ·have hi':i<a.length:=by simpa using h2
  have hib:i<b.length:=by omega
  have ea:=sa (a.getD i default) (by rw[getD_some hi']; exact List.getElem_mem hi')
  have eb:=sb (b.getD i default) (by rw[getD_some hib]; exact List.getElem_mem hib)
  conv=>whnf
  repeat(refine VC.mk (by simp only[Rw.rng]; omega) ?_; conv=>whnf)
  refine ah.pure (S.RH (a.getD i default) (b.getD i default) ea eb) rfl ?_
  conv=>whnf
  refine⟨fun h3=>?_,fun h3=>?_⟩
  ·replace h3:(!decide (a.getD i default=b.getD i default))=true:=h3
   have h3':a.getD i default≠b.getD i default:=by simpa using h3
   conv=>whnf
   refine ak.bool ?_
   rw[decide_eq_false]
   rintro rfl
   exact h3' rfl
  ·replace h3:(!decide (a.getD i default=b.getD i default))=false:=h3
   have h3':a.getD i default=b.getD i default:=by
    rw[Bool.not_eq_false'] at h3
    exact of_decide_eq_true h3
   conv=>whnf
   refine .mk (by simp only[okI] at *; first|omega|(simp_all; done)|(simp_all; omega)) ?_
   conv=>whnf
   exact⟨i+1,[],⟨hi',acw hi' hib he h3'⟩,by omega,(sR rfl),(sR rfl),trivial⟩
 ·have hi':i=a.length:=by have:=of_decide_eq_false h2; omega
  subst hi'
  rw[List.take_length,hl,List.take_length] at he
  conv=>whnf
  exact ak.bool (by rw[decide_eq_true he])
theorem S.UK(l:List Elem)(f:Bool)(hl:l.length<2^30):aS Tryz.prog 92 (V.aV [.row 3 f (.elems l)]) (Hz.au []) 0 (fun t hp=>(l=[]/\t=T.nil/\hp=Hz.au [])\/(t= .own 0/\hp=Hz.au [(0,some (dG l))])):=by
 refine qA.of (nx:=0) (h0:=[]) Bd.fQ (by simp) ⟨_,_,.inr ⟨rfl,rfl⟩⟩ rfl rfl ?_
 conv=>whnf
 refine Yx.mk (fun hz=>?_) ?_
 ·have h0:l=[]:=List.eq_nil_of_length_eq_zero hz
  conv=>whnf
  refine Fork.mk (fun _=>?_) (fun q=>absurd (q.symm.trans ((rfl:true=true))) Bool.false_ne_true)
  conv=>whnf
  exact⟨fun _=>False,id,T.nil,Hz.au [],.inl ⟨h0,rfl,rfl⟩,aC _,(fun i ob hi=>by cases hi),(fun i j hi=>by cases hi),trivial,(fun i ob hi=>by cases hi),fun i hi=>by cases hi⟩
 ·conv=>whnf
  refine Fork.mk (fun q=>absurd (q.symm.trans ((rfl:false=false))).symm Bool.false_ne_true) (fun _=>?_)
  conv=>whnf
  refine .mk (by show(0+l.length)*32<=140737488355328/\0+l.length<=1152921504606846976; omega) ?_
  conv=>whnf
  exact jG.one (c:=0) (j:=5) (o:=dG l) (t:=.own 0) rfl rfl rfl nofun (.inr rfl) rfl (.eq rfl) (.inr ⟨rfl,rfl⟩)
theorem ah.UK{h:Hz}{n:Nat}{l:List Elem}{f:Bool}{K:V->Hz->Prop}{KW:Nat->V->Hz->Prop}(hn:h.get n=none)(hl:l.length<2^30)
  (h1:l=[]->K (.row 0 true .nil) ((n,none)::h)) (h2:K (.own n) ((n,some (dG l))::h)):ah Tryz.prog false none 92 [.row 3 f (.elems l)] h n K KW:=by
 refine ah.Ut [] (S.UK l f hl) rfl rfl rfl rfl rfl trivial hn (by simp) ?_
 rintro t hp (⟨a,rfl,rfl⟩|⟨rfl,rfl⟩)
 ·exact⟨.row 0 true .nil,[none],rfl,rfl,⟨rfl,trivial⟩,h1 a⟩
 ·exact⟨.own n,[some (dG l)],rfl,rfl,⟨congrArg some (uD rfl _).symm,trivial⟩,h2⟩
theorem S.zD(l:List Elem)(hl:l.length<2^29)(hg: ∀ e∈l,Ae e):aS Tryz.prog 75 (V.aV [.own 0]) (Hz.au [(0,some (dG l))]) 1 (fun t hp=>t=(V.row 3 false (.elems (bC l))).aG/\hp=Hz.au []):=by
 refine aS.afi (S.yw l 1 (by decide) hl hg) ?_
 have hs: ∀ o:OV,ZT (fun _=>True) (Hz.au [(1,some o)])=Hz.au []:=fun o=>by
  funext i
  simp only[ZT,if_true]
  rfl
 rintro t hp (⟨rfl,rfl⟩|⟨m,rfl,rfl⟩)
 ·exact⟨fun _=>True,_,P9 trivial rfl,rfl,rfl,hs _⟩
 ·exact⟨fun _=>True,_,(ak.aaW (m:=m) rfl).ok,rfl,rfl,hs _⟩
theorem ah.zD{h:Hz}{i n:Nat}{l:List Elem}{K:V->Hz->Prop}{KW:Nat->V->Hz->Prop}(hi:h.get i=some (dG l))(hn:h.get n=none)(hin:i≠n)(hl:l.length<2^29)(hg: ∀ e∈l,Ae e)
  (hK:K (.row 3 false (.elems (bC l))) ((i,none)::(n,none)::h)):ah Tryz.prog false none 75 [.own i] h n K KW:=by
 refine ah.Ut [i] (S.zD l hl hg) rfl rfl rfl rfl rfl ⟨⟨_,hi,uD rfl _⟩,trivial⟩ hn (by simp; exact hin) ?_
 rintro t hp ⟨rfl,rfl⟩
 exact⟨_,[none,none],rfl,QT rfl _,⟨rfl,rfl,trivial⟩,hK⟩
def kX(p:aI)(b:List Elem)(i:Nat):List Elem:=b++(b.take i).flatMap fun x=>(pO p x).2
def growE(p:aI)(b:List Elem):Option (List Elem):=bif b.any (fun x=>(pO p x).1 !=0) then none else bif decide (100<(bC (kX p b b.length)).length) then none else some (bC (kX p b b.length))
def nS(p:aI):Nat->List Elem->Nat->Option (List Elem×Nat×Bool)
 |0,b,k=>match growE p b with
  |none=>none
  |some l=>some (b,k,decide (l=b))
 |f+1,b,k=>match growE p b with
  |none=>none
  |some l=>bif decide (l=b) then some (b,k,true) else nS p f l (k+1)
theorem zF{p:aI}{f:Nat}{b:List Elem}{k:Nat}(h:growE p b=none):nS p f b k=none:=by
 cases f<;>simp only[nS,h]
theorem KC{p:aI}{f:Nat}{b:List Elem}{k:Nat}(h:growE p b=some b):nS p f b k=some (b,k,true):=by
 cases f<;>simp only[nS,h,decide_true,cond_true]
theorem Ny{p:aI}{b l:List Elem}{k:Nat}(h:growE p b=some l)(hn:l≠b):nS p 0 b k=some (b,k,false):=by
 simp only[nS,h,decide_eq_false hn]
theorem KD{p:aI}{f:Nat}{b l:List Elem}{k:Nat}(h:growE p b=some l)(hn:l≠b):nS p (f+1) b k=nS p f l (k+1):=by
 simp only[nS,h,decide_eq_false hn,cond_false]
theorem RI{p:aI}{e:Elem}:(pO p e).1=0\/(pO p e).1=4:=by
 unfold pO
 cases p.rules.any (fun r=>(sF p r e).1 !=0)
 ·cases decide (100<(bC (kD p e p.rules.length)).length)
  ·exact .inl rfl
  ·exact .inr rfl
 ·exact .inr rfl
theorem KE{p:aI}{e:Elem}:(pO p e).2.length<=100:=by
 unfold pO
 cases p.rules.any (fun r=>(sF p r e).1 !=0)
 ·cases h:decide (100<(bC (kD p e p.rules.length)).length) with
  |false=>have:=of_decide_eq_false h; show(bC _).length<=100; omega
  |true=>exact Nat.zero_le _
 ·exact Nat.zero_le _
theorem aax{p:aI}{e x:Elem}(hF:Ej p e)(h:x∈(pO p e).2):qL p x=false:=by
 unfold pO at h
 cases h1:p.rules.any (fun r=>(sF p r e).1 !=0) with
 |true=>rw[h1] at h; cases h
 |false =>
  rw[h1,cond_false] at h
  cases h2:decide (100<(bC (kD p e p.rules.length)).length) with
  |true=>rw[h2] at h; cases h
  |false=>rw[h2,cond_false] at h; exact KA hF (wE h)
theorem KF{p:aI}{b:List Elem}{i:Nat}(hi:i<b.length):kX p b (i+1)=kX p b i++(pO p (b.getD i default)).2:=by
 unfold kX
 rw[List.take_succ_eq_append_getElem hi,List.flatMap_append,getD_some hi,List.append_assoc]; simp
theorem Nz{p:aI}{b:List Elem}{i:Nat}:(kX p b i).length<=b.length+i*100:=by
 have: ∀ L:List Elem,(L.flatMap fun r=>(pO p r).2).length<=L.length*100:=by
  intro L
  induction L with
  |nil=>simp
  |cons c L ih=>rw[List.flatMap_cons,List.length_append,List.length_cons,Nat.succ_mul]; have:=@KE p c; omega
 unfold kX
 rw[List.length_append]
 have h1:=this (b.take i)
 have h2:(b.take i).length*100<=i*100:=Nat.mul_le_mul_right _ (by rw[List.length_take]; omega)
 omega
def Ei(p:aI)(b:List Elem):Prop:= ∀ x∈b,Ej p x
theorem G6{p:aI}{b:List Elem}{i:Nat}(hb:Ei p b):Ei p (kX p b i):=by
 intro x hx
 rcases List.mem_append.1 hx with hx|hx
 ·exact hb x hx
 ·obtain⟨y,hy,hx⟩:=List.mem_flatMap.1 hx
  have hF:=hb y (List.mem_of_mem_take hy)
  exact aau hF (aax hF hx)
theorem NC{p:aI}{x:Elem}(h:Ej p x):Ae x:=by
 have h1:=h.valid.states
 have h2:=h.len
 exact⟨by omega,fun y hy=>by have:=h.nums y hy; omega⟩
theorem LH{p:aI}{b l:List Elem}(hb:Ei p b)(h:growE p b=some l):Ei p l/\l.length<=100:=by
 unfold growE at h
 cases h1:b.any (fun x=>(pO p x).1 !=0) with
 |true=>rw[h1] at h; cases h
 |false =>
  rw[h1,cond_false] at h
  cases h2:decide (100<(bC (kX p b b.length)).length) with
  |true=>rw[h2] at h; cases h
  |false =>
   rw[h2,cond_false] at h
   cases h
   exact⟨fun x hx=>G6 hb x (wE hx),by have:=of_decide_eq_false h2; omega⟩
def RJ(o:Option (List Elem×Nat×Bool)):V:=match o with
 |none=>.dH [.row 3 false (.elems []),.int 0,.bool false,.int 4]
 |some (b,k,d)=>.dH [.row 3 false (.elems b),.int k,.bool d,.int 0]
theorem G7(o:Option (List Elem×Nat×Bool)):(RJ o).free=true:=by
 match o with
 |none=>rfl
 |some (b,k,d)=>rfl
theorem ak.RN{h:Hz}{a c:V}{b:Bool}:ak (.dH [.row 3 false (.elems []),a,.bool b,c]) (.dH [.row 0 true .nil,a,.bool b,c]) h:=⟨by
 show T.sub (fun _=>True) h.au (.dH [.sl 3 false [],a.aG,(V.bool b).aG,c.aG]) (.dH [.sl 0 true [],a.aG,(V.bool b).aG,c.aG])
 simp only[T.sub,T.dN]
 exact⟨⟨.inl trivial,.inr trivial,fun h=>by cases h⟩,aC _,aC _,aC _,trivial⟩⟩
def yV(p:aI)(q:Prop')(rounds:Int):Option (List Elem×Nat×Bool):=bif decide (100<(eY p q).length) then none else nS p rounds.toNat (eY p q) 0
theorem NJ{p:aI}{q:Prop'}(hc:bK p q=0):Ei p (eY p q):=by
 obtain⟨_,_,b3,b4⟩:=Dk hc
 have hcov:Em p=0:=by unfold Em; rw[show(bF p !=0)=false by simp[b3],b4]; rfl
 intro x hx
 refine O6 hcov ?_
 unfold eY at hx
 rw[show(bK p q !=0)=false by simp[hc],cond_false] at hx
 obtain⟨w,hw,h3⟩:=List.mem_flatMap.1 hx
 obtain⟨u,_,rfl⟩:=List.mem_map.1 h3
 have hw':=List.mem_range.1 hw
 unfold qL
 have hl:(oH p.states.length u).length=p.states.length:=jB
 have hall:(oH p.states.length u).all BZ=true:=by
  rw[List.all_eq_true]
  intro y hy
  have:=Et y hy
  cases hk:BZ y with
  |true=>rfl
  |false =>
   have h:=acy (x:=y)
   rw[hk] at h
   simp only[Bool.not_false,Bool.or_eq_true,decide_eq_true_eq] at h
   omega
 show(((((oH p.states.length u).length:Int) !=p.states.length)|| !((oH p.states.length u).all BZ))||decide ((w:Int)<0)||decide ((w:Int)>=max 1 (p.values.length:Int)))=false
 rw[hl,hall,decide_eq_false (by omega: ¬ (w:Int)<0),decide_eq_false (by omega: ¬ (w:Int)>=max 1 (p.values.length:Int))]
 simp
set_option maxHeartbeats 2000000 in
theorem S.lN(p:aI)(q:Prop')(rounds:Int)(hp:fA p)(hq:jK q)(hc:bK p q=0)(hr:rounds<2^40):aj Tryz.prog 57 [.dat (.iF p),.dat (.prop q),.int rounds] (RJ (yV p q rounds)):=by
 have hbf:=NJ hc
 obtain⟨l1,l2⟩:=zY p q hp
 obtain⟨_,b2,b3,_⟩:=Dk hc
 have hv:=Dl b3
 have v1:=hv.pos; have v2:=hv.states; have v3:=hv.values
 have hbad:eY p q=bC (vY q p.states.length (max 1 p.values.length) (4 ^ p.states.length)):=by rw[eY,show(bK p q !=0)=false by simp[hc],bad_law]; rfl
 generalize hres:RJ (yV p q rounds)=res
 refine aj.of Bd.lN (by simp) rfl (by rw[<- hres]; exact G7 _) ?_
 conv=>whnf
 refine ah.pure (S.iq p q p.states.length (max 1 p.values.length) hp hq rfl v1 v2 rfl (by omega) b2) rfl ?_
 conv=>whnf
 rw[<- hbad]
 by_cases afn:100<(eY p q).length
 ·have hB:yV p q rounds=none:=by unfold yV; rw[decide_eq_true afn]; rfl
  refine aH.times 1 rfl ?_
  conv=>whnf
  refine Fork.mk (fun _=>?_) (fun q=>absurd (q.symm.trans (decide_eq_true (by omega))) Bool.false_ne_true)
  conv=>whnf
  rw[<- hres,hB]
  exact ak.RN
 have hB:yV p q rounds=nS p rounds.toNat (eY p q) 0:=by unfold yV; rw[decide_eq_false afn]; rfl
 refine aH.objs 4 [2,3,4] (fun x:Nat×List Elem=>[(11,.int x.1),(10,.row 3 false (.elems x.2))]) (fun _=>[(0,IX p),(1,IY q)]) (fun x=>x.2.length<=100/\Ei p x.2/\RJ (nS p (rounds-(x.1:Int)).toNat x.2 x.1)=res) (fun x=>(rounds-(x.1:Int)).toNat) (0,eY p q) [0,1] rfl (by decide) (fun _=>rfl) ⟨by show(eY p q).length<=100; omega,hbf,by rw[<- hres,hB]; show RJ (nS p (rounds-((0:Nat):Int)).toNat _ _)=_; rw[show rounds-((0:Nat):Int)=rounds by omega]⟩ (sR rfl) ⟨⟨rfl,nofun,rfl,rfl,rfl,_,rfl,rfl,rfl,aQ.of_eq rfl⟩,⟨rfl,nofun,rfl,rfl,rfl,_,rfl,rfl,rfl,aQ.of_eq rfl⟩,trivial⟩ ?_
 conv=>whnf
 refine⟨(sR rfl),rfl,?_⟩
 rintro⟨k,b⟩ ⟨aay,hfit,hR⟩
 replace aay:b.length<=100:=aay
 replace hfit:Ei p b:=hfit
 replace hR:RJ (nS p (rounds-(k:Int)).toNat b k)=res:=hR
 conv=>whnf
 refine Fork.mk (fun q=>absurd (q.symm.trans (decide_eq_false (show ¬ 100<(b.length:Int) by omega))).symm Bool.false_ne_true) (fun _=>?_)
 conv=>whnf
 refine ah.UK rfl (show b.length<2^30 by omega) (fun h0=>?_) ?_
 ·replace h0:b=[]:=h0
  conv=>whnf
  refine aH.nil 12 35 3 (by rfl) rfl rfl rfl ?_
  refine aH.objs 4 [27,28,10,11,2,3,4] (fun i:Nat=>[(29,.int i),(12,.own 2)]) (fun i=>[(0,IX p),(1,IY q),(2,dG (kX p b i))]) (fun i=>i<=b.length/\(b.take i).any (fun x=>(pO p x).1 !=0)=false) (fun i=>b.length-i) 0 [0,1,13] rfl (by decide) (fun _=>rfl) ⟨Nat.zero_le _,rfl⟩ (sR rfl) ⟨⟨rfl,nofun,rfl,rfl,rfl,_,rfl,rfl,rfl,aQ.of_eq rfl⟩,⟨rfl,nofun,rfl,rfl,rfl,_,rfl,rfl,rfl,aQ.of_eq rfl⟩,⟨rfl,nofun,rfl,rfl,rfl,_,rfl,rfl,rfl,aQ.of_eq (by rw[h0]; rfl)⟩,trivial⟩ ?_
  conv=>whnf
  refine⟨(sR rfl),rfl,?_⟩
  rintro i ⟨hi,hno⟩
  have hgl:=Nz (p:=p) (b:=b) (i:=i)
  conv=>whnf
  refine⟨fun h2=>?_,fun h2=>?_⟩
  ·have hi':i<b.length:=by simpa using h2
   have hmem:b.getD i default∈b:=by rw[getD_some hi']; exact List.getElem_mem hi'
   have hFx:=hfit _ hmem
   have hst:=KF (p:=p) hi'
   have hpl:=@KE p (b.getD i default)
   have hpe:=@RI p (b.getD i default)
   conv=>whnf
   refine .mk (by simp only[Rw.rng] at *; first|omega|(simp_all; done)|(simp_all; omega)) ?_
   conv=>whnf
   refine ah.pure (S.vO p (b.getD i default) hp hFx) rfl ?_
   generalize hQ:pO p (b.getD i default)=Q at hst hpl hpe
   conv=>whnf
   refine⟨fun h3=>?_,fun h3=>?_⟩
   ·replace h3:(Q.1 !=0)=true:=h3
    have h4:Q.1=4:=by
     rcases hpe with h|h
     ·rw[h] at h3; cases h3
     ·exact h
    have hnone:growE p b=none:=by
     unfold growE
     rw[List.any_eq_true.2 ⟨_,hmem,by rw[hQ]; exact h3⟩]; rfl
    conv=>whnf
    rw[<- hR,zF hnone,h4]
    exact ak.RN
   ·replace h3:(Q.1 !=0)=false:=h3
    conv=>whnf
    repeat(refine VC.mk (by first|(show((kX p b i).length+Q.2.length)*32<=140737488355328/\(kX p b i).length+Q.2.length<=1152921504606846976; omega)|(simp only[okI] at *; first|omega|(simp_all; done)|(simp_all; omega))) ?_; conv=>whnf)
    refine⟨i+1,[0,1,21],⟨hi',?_⟩,by omega,(sR rfl),(sR rfl),⟨rfl,nofun,rfl,rfl,rfl,_,rfl,rfl,rfl,aQ.of_eq rfl⟩,⟨rfl,nofun,rfl,rfl,rfl,_,rfl,rfl,rfl,aQ.of_eq rfl⟩,⟨rfl,nofun,rfl,rfl,rfl,_,rfl,rfl,rfl,aQ.of_eq (by rw[hst])⟩,trivial⟩
    rw[List.take_succ_eq_append_getElem hi',List.any_append,hno,Bool.false_or,<- getD_some (d:=default) hi']
    show((pO p (b.getD i default)).1 !=0||false)=false
    rw[hQ,h3]; rfl
  have hi':i=b.length:=by replace h2:decide ((i:Int)<(b.length:Int))=false:=h2; have:=of_decide_eq_false h2; omega
  subst hi'
  rw[List.take_length] at hno
  have hgr:growE p b=bif decide (100<(bC (kX p b b.length)).length) then none else some (bC (kX p b b.length)):=by unfold growE; rw[hno]; rfl
  have hgf:=G6 (i:=b.length) hfit
  conv=>whnf
  refine ah.zD rfl rfl (by decide) (by omega) (fun x hx=>NC (hgf x hx)) ?_
  have hml:=Dz (kX p b b.length)
  have hnf:Ei p (bC (kX p b b.length)):=fun x hx=>hgf x (wE hx)
  generalize hM:bC (kX p b b.length)=M at hgr hml hnf
  conv=>whnf
  refine⟨fun h3=>?_,fun h3=>?_⟩
  ·replace h3:decide (100<(M.length:Int))=true:=h3
   have:=of_decide_eq_true h3
   rw[decide_eq_true (by omega:100<M.length),cond_true] at hgr
   conv=>whnf
   rw[<- hR,zF hgr]
   exact ak.RN
  replace h3:decide (100<(M.length:Int))=false:=h3
  have afo:=of_decide_eq_false h3
  rw[decide_eq_false (by omega: ¬ 100<M.length),cond_false] at hgr
  conv=>whnf
  refine ah.pure (S.Nw M b false false (by omega) (by omega) (fun x hx=>by have:=(hnf x hx).len; have:=(hnf x hx).valid.states; omega) (fun x hx=>by have:=(hfit x hx).len; have:=(hfit x hx).valid.states; omega)) rfl ?_
  conv=>whnf
  refine⟨fun h4=>?_,fun h4=>?_⟩
  ·have WB:M=b:=of_decide_eq_true h4
   rw[WB] at hgr
   conv=>whnf
   rw[<- hR,KC hgr]
   exact ak.eqv rfl
  have WB:M≠b:=of_decide_eq_false h4
  conv=>whnf
  refine⟨fun h5=>?_,fun h5=>?_⟩
  ·have hkr:(rounds-(k:Int)).toNat=0:=by have:=of_decide_eq_true h5; omega
   conv=>whnf
   rw[<- hR,hkr,Ny hgr WB]
   exact ak.eqv rfl
  ·have hkr:(rounds-(k:Int)).toNat=(rounds-((k+1:Nat):Int)).toNat+1:=by have:=of_decide_eq_false h5; omega
   conv=>whnf
   refine .mk (by simp only[okI] at *; first|omega|(simp_all; done)|(simp_all; omega)) ?_
   conv=>whnf
   refine⟨(k+1,M),[0,1],⟨by show M.length<=100; omega,hnf,?_⟩,?_,(sR rfl),(sR rfl),⟨rfl,nofun,rfl,rfl,rfl,_,rfl,rfl,rfl,aQ.of_eq rfl⟩,⟨rfl,nofun,rfl,rfl,rfl,_,rfl,rfl,rfl,aQ.of_eq rfl⟩,trivial⟩
   ·show RJ (nS p (rounds-((k+1:Nat):Int)).toNat M (k+1))=res
    rw[<- hR,hkr,KD hgr WB]
   ·show(rounds-((k+1:Nat):Int)).toNat<(rounds-(k:Int)).toNat
    omega
 ·conv=>whnf
  refine aH.objs 4 [27,28,10,11,2,3,4] (fun i:Nat=>[(29,.int i),(12,.own 2)]) (fun i=>[(0,IX p),(1,IY q),(2,dG (kX p b i))]) (fun i=>i<=b.length/\(b.take i).any (fun x=>(pO p x).1 !=0)=false) (fun i=>b.length-i) 0 [0,1,8] rfl (by decide) (fun _=>rfl) ⟨Nat.zero_le _,rfl⟩ (sR rfl) ⟨⟨rfl,nofun,rfl,rfl,rfl,_,rfl,rfl,rfl,aQ.of_eq rfl⟩,⟨rfl,nofun,rfl,rfl,rfl,_,rfl,rfl,rfl,aQ.of_eq rfl⟩,⟨rfl,nofun,rfl,rfl,rfl,_,rfl,rfl,rfl,aQ.of_eq (by unfold kX; simp)⟩,trivial⟩ ?_
  conv=>whnf
  refine⟨(sR rfl),rfl,?_⟩
  rintro i ⟨hi,hno⟩
  have hgl:=Nz (p:=p) (b:=b) (i:=i)
  conv=>whnf
  refine⟨fun h2=>?_,fun h2=>?_⟩
  ·have hi':i<b.length:=by simpa using h2
   have hmem:b.getD i default∈b:=by rw[getD_some hi']; exact List.getElem_mem hi'
   have hFx:=hfit _ hmem
   have hst:=KF (p:=p) hi'
   have hpl:=@KE p (b.getD i default)
   have hpe:=@RI p (b.getD i default)
   conv=>whnf
   refine .mk (by simp only[Rw.rng] at *; first|omega|(simp_all; done)|(simp_all; omega)) ?_
   conv=>whnf
   refine ah.pure (S.vO p (b.getD i default) hp hFx) rfl ?_
   generalize hQ:pO p (b.getD i default)=Q at hst hpl hpe
   conv=>whnf
   refine⟨fun h3=>?_,fun h3=>?_⟩
   ·replace h3:(Q.1 !=0)=true:=h3
    have h4:Q.1=4:=by
     rcases hpe with h|h
     ·rw[h] at h3; cases h3
     ·exact h
    have hnone:growE p b=none:=by
     unfold growE
     rw[List.any_eq_true.2 ⟨_,hmem,by rw[hQ]; exact h3⟩]; rfl
    conv=>whnf
    rw[<- hR,zF hnone,h4]
    exact ak.RN
   ·replace h3:(Q.1 !=0)=false:=h3
    conv=>whnf
    repeat(refine VC.mk (by first|(show((kX p b i).length+Q.2.length)*32<=140737488355328/\(kX p b i).length+Q.2.length<=1152921504606846976; omega)|(simp only[okI] at *; first|omega|(simp_all; done)|(simp_all; omega))) ?_; conv=>whnf)
    refine⟨i+1,[0,1,21],⟨hi',?_⟩,by omega,(sR rfl),(sR rfl),⟨rfl,nofun,rfl,rfl,rfl,_,rfl,rfl,rfl,aQ.of_eq rfl⟩,⟨rfl,nofun,rfl,rfl,rfl,_,rfl,rfl,rfl,aQ.of_eq rfl⟩,⟨rfl,nofun,rfl,rfl,rfl,_,rfl,rfl,rfl,aQ.of_eq (by rw[hst])⟩,trivial⟩
    rw[List.take_succ_eq_append_getElem hi',List.any_append,hno,Bool.false_or,<- getD_some (d:=default) hi']
    show((pO p (b.getD i default)).1 !=0||false)=false
    rw[hQ,h3]; rfl
  have hi':i=b.length:=by replace h2:decide ((i:Int)<(b.length:Int))=false:=h2; have:=of_decide_eq_false h2; omega
  subst hi'
  rw[List.take_length] at hno
  have hgr:growE p b=bif decide (100<(bC (kX p b b.length)).length) then none else some (bC (kX p b b.length)):=by unfold growE; rw[hno]; rfl
  have hgf:=G6 (i:=b.length) hfit
  conv=>whnf
  refine ah.zD rfl rfl (by decide) (by omega) (fun x hx=>NC (hgf x hx)) ?_
  have hml:=Dz (kX p b b.length)
  have hnf:Ei p (bC (kX p b b.length)):=fun x hx=>hgf x (wE hx)
  generalize hM:bC (kX p b b.length)=M at hgr hml hnf
  conv=>whnf
  refine⟨fun h3=>?_,fun h3=>?_⟩
  ·replace h3:decide (100<(M.length:Int))=true:=h3
   have:=of_decide_eq_true h3
   rw[decide_eq_true (by omega:100<M.length),cond_true] at hgr
   conv=>whnf
   rw[<- hR,zF hgr]
   exact ak.RN
  replace h3:decide (100<(M.length:Int))=false:=h3
  have afo:=of_decide_eq_false h3
  rw[decide_eq_false (by omega: ¬ 100<M.length),cond_false] at hgr
  conv=>whnf
  refine ah.pure (S.Nw M b false false (by omega) (by omega) (fun x hx=>by have:=(hnf x hx).len; have:=(hnf x hx).valid.states; omega) (fun x hx=>by have:=(hfit x hx).len; have:=(hfit x hx).valid.states; omega)) rfl ?_
  conv=>whnf
  refine⟨fun h4=>?_,fun h4=>?_⟩
  ·have WB:M=b:=of_decide_eq_true h4
   rw[WB] at hgr
   conv=>whnf
   rw[<- hR,KC hgr]
   exact ak.eqv rfl
  have WB:M≠b:=of_decide_eq_false h4
  conv=>whnf
  refine⟨fun h5=>?_,fun h5=>?_⟩
  ·have hkr:(rounds-(k:Int)).toNat=0:=by have:=of_decide_eq_true h5; omega
   conv=>whnf
   rw[<- hR,hkr,Ny hgr WB]
   exact ak.eqv rfl
  ·have hkr:(rounds-(k:Int)).toNat=(rounds-((k+1:Nat):Int)).toNat+1:=by have:=of_decide_eq_false h5; omega
   conv=>whnf
   refine .mk (by simp only[okI] at *; first|omega|(simp_all; done)|(simp_all; omega)) ?_
   conv=>whnf
   refine⟨(k+1,M),[0,1],⟨by show M.length<=100; omega,hnf,?_⟩,?_,(sR rfl),(sR rfl),⟨rfl,nofun,rfl,rfl,rfl,_,rfl,rfl,rfl,aQ.of_eq rfl⟩,⟨rfl,nofun,rfl,rfl,rfl,_,rfl,rfl,rfl,aQ.of_eq rfl⟩,trivial⟩
   ·show RJ (nS p (rounds-((k+1:Nat):Int)).toNat M (k+1))=res
    rw[<- hR,hkr,KD hgr WB]
   ·show(rounds-((k+1:Nat):Int)).toNat<(rounds-(k:Int)).toNat
    omega
def V3(p:aI)(q:Prop')(rounds:Int):Int×List Elem×Bool:=bif bK p q !=0 then(bK p q,[],false) else bif decide (100<rounds) then(1,[],false) else match yV p q rounds with
 |none=>(4,[],false)
 |some (b,_,d)=>(0,b,d)
def bkV(x:Int×List Elem×Bool):V:=.dH [.row 3 false (.elems x.2.1),.bool x.2.2,.int x.1]
theorem ak.afp{h:Hz}{c:V}{b:Bool}:ak (.dH [.row 3 false (.elems []),.bool b,c]) (.dH [.row 0 true .nil,.bool b,c]) h:=⟨by
 show T.sub (fun _=>True) h.au (.dH [.sl 3 false [],(V.bool b).aG,c.aG]) (.dH [.sl 0 true [],(V.bool b).aG,c.aG])
 simp only[T.sub,T.dN]
 exact⟨⟨.inl trivial,.inr trivial,fun h=>by cases h⟩,aC _,aC _,trivial⟩⟩
theorem S.nT(p:aI)(q:Prop')(rounds:Int)(hp:fA p)(hq:jK q):aj Tryz.prog 26 [.dat (.iF p),.dat (.prop q),.int rounds] (bkV (V3 p q rounds)):=by
 generalize hres:bkV (V3 p q rounds)=res
 refine aj.of Bd.nT (by simp) rfl (by rw[<- hres]; rfl) ?_
 conv=>whnf
 refine ah.pure (S.kQ p q hp hq) rfl ?_
 conv=>whnf
 refine⟨fun h1=>?_,fun h1=>?_⟩
 ·replace h1:(bK p q !=0)=true:=h1
  conv=>whnf
  rw[<- hres,V3,h1]
  exact ak.afp
 replace h1:(bK p q !=0)=false:=h1
 conv=>whnf
 refine⟨fun h2=>?_,fun h2=>?_⟩
 ·replace h2:decide (100<rounds)=true:=h2
  conv=>whnf
  rw[<- hres,V3,h1,h2]
  exact ak.afp
 replace h2:decide (100<rounds)=false:=h2
 have hr:=of_decide_eq_false h2
 have hX:V3 p q rounds=match yV p q rounds with
  |none=>(4,[],false)
  |some (b,_,d)=>(0,b,d):=by rw[V3,h1,h2]; rfl
 conv=>whnf
 refine ah.pure (S.lN p q rounds hp hq (Ce h1) (by omega)) (G7 _) ?_
 match hs:yV p q rounds with
 |none =>
  rw[hs] at hX
  conv=>whnf
  rw[<- hres,hX]
  exact ak.eqv rfl
 |some (b,k,d) =>
  rw[hs] at hX
  conv=>whnf
  rw[<- hres,hX]
  exact ak.eqv rfl
def IW(p:aI)(q:Prop')(s:Int×Int)(x:Elem):Int×Int:=bif oP p q x&&(s.1==1||decide (dO x<s.2)) then(2,dO x) else s
def Cb(p:aI)(q:Prop')(b:List Elem)(i:Nat):Int×Int:=(b.take i).foldl (IW p q) (1,0)
theorem X0{p:aI}{q:Prop'}{b:List Elem}{i:Nat}(hi:i<b.length):Cb p q b (i+1)=IW p q (Cb p q b i) (b.getD i default):=by
 unfold Cb
 rw[List.take_succ_eq_append_getElem hi,List.foldl_append,getD_some hi]; rfl
def Cc(p:aI)(q:Prop')(rounds:Int):Int×Int×List Elem×Int×Int:=bif bK p q !=0 then(bK p q,0,[],0,0) else bif decide (100<rounds) then(1,0,[],0,0) else match yV p q rounds with
 |none=>(4,0,[],0,0)
 |some (b,k,d)=>bif d then(0,(Cb p q b b.length).1,b,(Cb p q b b.length).2,k) else(0,0,[],0,k)
def afq(x:Int×Int×List Elem×Int×Int):V:=.dH [.agg [.int x.2.1,.row 3 false (.elems x.2.2.1),.int x.2.2.2.1,.int x.2.2.2.2],.int x.1]
theorem ak.acz{h:Hz}{a c d e:V}:ak (.dH [.agg [a,.row 3 false (.elems []),c,d],e]) (.dH [.agg [a,.row 0 true .nil,c,d],e]) h:=⟨by
 show T.sub (fun _=>True) h.au (.dH [.agg [a.aG,.sl 3 false [],c.aG,d.aG],e.aG]) (.dH [.agg [a.aG,.sl 0 true [],c.aG,d.aG],e.aG])
 simp only[T.sub,T.dN]
 exact⟨⟨aC _,⟨.inl trivial,.inr trivial,fun h=>by cases h⟩,aC _,aC _,trivial⟩,aC _,trivial⟩⟩
abbrev boxS(a:Int)(b:List Elem)(c d:Int):OV:=.box 56 5 (.agg [.int a,.row 3 false (.elems b),.int c,.int d])
theorem aaz{p:aI}{q:Prop'}{rounds:Int}{b:List Elem}{k:Nat}{d:Bool}(hc:bK p q=0)(h:yV p q rounds=some (b,k,d)):Ei p b/\b.length<=100:=by
 unfold yV at h
 cases h1:decide (100<(eY p q).length) with
 |true=>rw[h1] at h; cases h
 |false =>
  rw[h1,cond_false] at h
  have: ∀ f b0 k0,Ei p b0->b0.length<=100->nS p f b0 k0=some (b,k,d)->Ei p b/\b.length<=100:=by
   intro f
   induction f with
   |zero =>
    intro b0 k0 h1 h2 h3
    simp only[nS] at h3
    split at h3
    ·cases h3
    ·cases h3; exact⟨h1,h2⟩
   |succ f ih =>
    intro b0 k0 h1 h2 h3
    simp only[nS] at h3
    split at h3
    ·cases h3
    ·rename_i l hl
     obtain⟨g1,g2⟩:=LH h1 hl
     cases he:decide (l=b0) with
     |true=>rw[he] at h3; cases h3; exact⟨h1,h2⟩
     |false=>rw[he] at h3; exact ih l _ g1 g2 h3
  exact this _ _ _ (NJ hc) (by have:=of_decide_eq_false h1; omega) h
set_option maxHeartbeats 1000000 in
theorem S.qy(p:aI)(q:Prop')(rounds:Int)(hp:fA p)(hq:jK q):aj Tryz.prog 28 [.dat (.iF p),.dat (.prop q),.int rounds] (afq (Cc p q rounds)):=by
 generalize hres:afq (Cc p q rounds)=res
 refine aj.of Bd.qy (by simp) rfl (by rw[<- hres]; rfl) ?_
 conv=>whnf
 refine ah.pure (S.kQ p q hp hq) rfl ?_
 conv=>whnf
 refine⟨fun h1=>?_,fun h1=>?_⟩
 ·replace h1:(bK p q !=0)=true:=h1
  conv=>whnf
  rw[<- hres,Cc,h1]
  exact ak.acz
 replace h1:(bK p q !=0)=false:=h1
 conv=>whnf
 refine⟨fun h2=>?_,fun h2=>?_⟩
 ·replace h2:decide (100<rounds)=true:=h2
  conv=>whnf
  rw[<- hres,Cc,h1,h2]
  exact ak.acz
 replace h2:decide (100<rounds)=false:=h2
 have hr:=of_decide_eq_false h2
 have hX:Cc p q rounds=match yV p q rounds with
  |none=>(4,0,[],0,0)
  |some (b,k,d)=>bif d then(0,(Cb p q b b.length).1,b,(Cb p q b b.length).2,k) else(0,0,[],0,k):=by rw[Cc,h1,h2]; rfl
 conv=>whnf
 refine ah.pure (S.lN p q rounds hp hq (Ce h1) (by omega)) (G7 _) ?_
 match hs:yV p q rounds with
 |none =>
  rw[hs] at hX
  conv=>whnf
  refine Fork.mk (fun _=>?_) (fun q=>absurd (q.symm.trans (rfl)) Bool.false_ne_true)
  conv=>whnf
  rw[<- hres,hX]
  exact ak.acz
 |some (b,k,false) =>
  rw[hs] at hX
  conv=>whnf
  refine Fork.mk (fun q=>absurd (q.symm.trans (rfl)).symm Bool.false_ne_true) (fun _=>?_)
  conv=>whnf
  refine Fork.mk (fun _=>?_) (fun q=>absurd (q.symm.trans (rfl)) Bool.false_ne_true)
  conv=>whnf
  rw[<- hres,hX]
  exact ak.acz
 |some (b,k,true) =>
  rw[hs] at hX
  obtain⟨hfit,aay⟩:=aaz (Ce h1) hs
  conv=>whnf
  refine Fork.mk (fun q=>absurd (q.symm.trans (rfl)).symm Bool.false_ne_true) (fun _=>?_)
  conv=>whnf
  refine Fork.mk (fun q=>absurd (q.symm.trans (rfl)).symm Bool.false_ne_true) (fun _=>?_)
  conv=>whnf
  refine aH.objs 4 [47,48,3,4,6] (fun i:Nat=>[(49,.int i),(13,.ptr 3 0 0)]) (fun i=>[(0,IX p),(1,IY q),(2,.box 56 5 (.agg [.int 0,.row 0 true .nil,.int 0,.int 0])),(3,boxS (Cb p q b i).1 b (Cb p q b i).2 k)]) (fun i=>i<=b.length) (fun i=>b.length-i) 0 [0,1,2,32] rfl (by decide) (fun _=>rfl) (Nat.zero_le _) (sR rfl) ⟨⟨rfl,nofun,rfl,rfl,rfl,_,rfl,rfl,rfl,aQ.of_eq rfl⟩,⟨rfl,nofun,rfl,rfl,rfl,_,rfl,rfl,rfl,aQ.of_eq rfl⟩,⟨rfl,nofun,rfl,rfl,rfl,_,rfl,rfl,rfl,aQ.of_eq rfl⟩,⟨rfl,nofun,rfl,rfl,rfl,_,rfl,rfl,rfl,aQ.of_eq rfl⟩,trivial⟩ ?_
  conv=>whnf
  refine⟨(sR rfl),rfl,?_⟩
  rintro i hi
  conv=>whnf
  refine⟨fun h3=>?_,fun h3=>?_⟩
  ·have hi':i<b.length:=by simpa using h3
   have hst:=X0 (p:=p) (q:=q) hi'
   have hF:=hfit (b.getD i default) (by rw[getD_some hi']; exact List.getElem_mem hi')
   have hle:(b.getD i default).counts.length<2^30:=by have:=hF.len; have:=hF.valid.states; omega
   conv=>whnf
   refine .mk (by simp only[Rw.rng] at *; first|omega|(simp_all; done)|(simp_all; omega)) ?_
   conv=>whnf
   refine ah.pure (S.nV (b.getD i default) (by omega)) rfl ?_
   conv=>whnf
   refine ah.pure (S.mV p q (b.getD i default) hp hq hle (vS (Ce h1))) rfl ?_
   generalize hS:Cb p q b i=s at hst
   conv=>whnf
   repeat(refine VC.mk (by first|exact id|exact fun h=>⟨h,h⟩|(intro h; simp_all; done)) ?_; conv=>whnf)
   refine⟨fun h4=>?_,fun h4=>?_⟩
   ·replace h4:(oP p q (b.getD i default)&&(s.1==1||decide (dO (b.getD i default)<s.2)))=true:=h4
    have hst':Cb p q b (i+1)=(2,dO (b.getD i default)):=by rw[hst,IW,h4]; rfl
    conv=>whnf
    refine .mk (by simp only[okI] at *; first|omega|(simp_all; done)|(simp_all; omega)) ?_
    conv=>whnf
    exact⟨i+1,[0,1,2,3],hi',by omega,(sR rfl),(sR rfl),⟨rfl,nofun,rfl,rfl,rfl,_,rfl,rfl,rfl,aQ.of_eq rfl⟩,⟨rfl,nofun,rfl,rfl,rfl,_,rfl,rfl,rfl,aQ.of_eq rfl⟩,⟨rfl,nofun,rfl,rfl,rfl,_,rfl,rfl,rfl,aQ.of_eq rfl⟩,⟨rfl,nofun,rfl,rfl,rfl,_,rfl,rfl,rfl,aQ.of_eq (by rw[hst']; rfl)⟩,trivial⟩
   ·replace h4:(oP p q (b.getD i default)&&(s.1==1||decide (dO (b.getD i default)<s.2)))=false:=h4
    have hst':Cb p q b (i+1)=s:=by rw[hst,IW,h4]; rfl
    conv=>whnf
    refine .mk (by simp only[okI] at *; first|omega|(simp_all; done)|(simp_all; omega)) ?_
    conv=>whnf
    exact⟨i+1,[0,1,2,3],hi',by omega,(sR rfl),(sR rfl),⟨rfl,nofun,rfl,rfl,rfl,_,rfl,rfl,rfl,aQ.of_eq rfl⟩,⟨rfl,nofun,rfl,rfl,rfl,_,rfl,rfl,rfl,aQ.of_eq rfl⟩,⟨rfl,nofun,rfl,rfl,rfl,_,rfl,rfl,rfl,aQ.of_eq rfl⟩,⟨rfl,nofun,rfl,rfl,rfl,_,rfl,rfl,rfl,aQ.of_eq (by rw[hst'])⟩,trivial⟩
  ·have hi':i=b.length:=by have:=of_decide_eq_false h3; omega
   subst hi'
   conv=>whnf
   rw[<- hres,hX]
   exact ak.eqv rfl
def G8(name:Str)(fr tt read write:Int):Rule:=⟨name,1,fr,tt,0,0,[],[],[],[],read,write,[],0,[],[],[],0⟩
def tK:aI:=⟨[109,120],1,[[105],[119],[99]],[],[[102,114,101,101],[104,101,108,100]],0,[],[0],[],[G8 [97,115,107] 0 1 (-1) (-1),G8 [116,97,107,101] 1 2 0 1,G8 [108,101,97,118,101] 2 0 1 0]⟩
def Di:Prop':=⟨[101,120],1,[],[⟨[2],2⟩],[],[]⟩
theorem zG{name:Str}{fr tt read write:Int}(_h:name.length<2^30):sJ (G8 name fr tt read write):=by
 constructor<;>simp[G8]
theorem H9:fA tK:=by
 refine⟨by decide,by decide,by decide,by decide,by decide,by decide,by decide,fun i=>?_,by decide⟩
 match i with
 |0=>exact zG (by decide)
 |1=>exact zG (by decide)
 |2=>exact zG (by decide)
 |i+3=>constructor<;>exact(by decide:(0:Nat)<2^30)
def FM:V:=.row 0 true .nil
def VQ(name:Str)(fr tt rd wr:Int):V:=.agg [.str name,.int 1,.int fr,.int tt,.int 0,.int 0,FM,FM,FM,FM,.int rd,.int wr,FM,.int 0,FM,FM,FM,.int 0]
def aaA:V:=.agg [.str tK.name,.int 1,.row 0 false (.strs tK.states),FM,.row 0 false (.strs tK.values),.int 0,FM,.row 0 false (.ints [0]),FM,.Gy 19 false [VQ [97,115,107] 0 1 (-1) (-1),VQ [116,97,107,101] 1 2 0 1,VQ [108,101,97,118,101] 2 0 1 0]]
theorem uG{Z:Nat->Prop}{h:Hp}{k:Nat}{l:List T}:T.sub Z h (.sl k false l) (.sl k true l):=⟨.inl rfl,.inl rfl,fun h=>by cases h⟩
theorem nN{Z:Nat->Prop}{h:Hp}{k:Nat}:T.sub Z h (.sl k false []) T.nil:=⟨.inl rfl,.inr rfl,fun h=>by cases h⟩
theorem aj.weak{P:Program}{f:FuncId}{args:List V}{a b:V}(S:aj P f args a)(hs:T.sub (fun _=>True) no b.aG a.aG)(hb:b.free=true):aj P f args b :=
 Ai.shut S (fun _=>hs) (V.nY b hb)
theorem KG{Z:Nat->Prop}{h:Hp}{name:Str}{fr tt rd wr:Int}:T.sub Z h (Hg (G8 name fr tt rd wr)) (VQ name fr tt rd wr).aG:=by
 refine⟨aC _,aC _,aC _,aC _,aC _,aC _,nN,nN,nN,nN,aC _,aC _,nN,aC _,nN,nN,nN,aC _,trivial⟩
theorem X3:T.sub (fun _=>True) no (Vo tK) aaA.aG:=by
 refine⟨aC _,aC _,aC _,nN,aC _,aC _,nN,aC _,nN,⟨.inr ⟨⟨KG,KG,KG,trivial⟩,fun t ht=>?_⟩,.inl rfl,fun h=>h⟩,trivial⟩
 obtain⟨x,_,rfl⟩:=List.mem_map.1 ht; rfl
theorem NQ{Z:Nat->Prop}{h:Hp}{k i ty:Nat}{l:List T}(hz:Z i)(hf:T.cu l=true)(hk:k≠fU)(q:h i=some ⟨ty,k,l⟩):T.sub Z h (.sl k false l) (.own i):=⟨rfl,hz,hf,hk,ty,q⟩
theorem S.KH:aj Tryz.prog 39 [] (.dat (.iF tK)):=by
 refine aj.weak (a:=aaA) ?_ X3 rfl
 refine aj.of Bd.nD (by simp) rfl rfl ?_
 conv=>whnf
 refine⟨⟨aC _,aC _,uG,aC _,uG,aC _,aC _,uG,aC _,NQ trivial rfl (by decide) rfl,trivial⟩⟩
def afr:V:=.agg [.str Di.name,.int 1,FM,.Gy 3 false [.agg [.row 0 true (.ints [2]),.int 2]],FM,FM]
theorem S.Bg:aj Tryz.prog 40 [] (.dat (.prop Di)):=by
 refine aj.weak (a:=afr) ?_ ?_ rfl
 ·refine aj.of Bd.kH (by simp) rfl rfl ?_
  conv=>whnf
  exact⟨⟨aC _,aC _,aC _,NQ trivial rfl (by decide) rfl,aC _,aC _,trivial⟩⟩
 ·refine⟨aC _,aC _,nN,⟨.inr ⟨⟨⟨uG,aC _,trivial⟩,trivial⟩,fun t ht=>?_⟩,.inl rfl,fun h=>h⟩,nN,nN,trivial⟩
  obtain⟨x,_,rfl⟩:=List.mem_map.1 ht; rfl
def LG:List Elem:=[⟨0,[0,0,2]⟩,⟨0,[0,1,1]⟩,⟨0,[1,0,1]⟩,⟨1,[0,0,2]⟩]
theorem KI:jK Di:=by
 refine⟨by decide,by decide,by decide,by decide,fun i=>?_⟩
 match i with
 |0=>exact(by decide:(1:Nat)<2^30)
 |i+1=>exact(by decide:(0:Nat)<2^30)
theorem X4:Cc tK Di 9=(0,1,LG,0,(Cc tK Di 9).2.2.2.2):=by kernel_rfl
theorem X5:xX tK Di LG=true:=by kernel_rfl
theorem D6:xY LG:=by
 intro x hx
 simp only[LG,List.mem_cons,List.not_mem_nil,or_false] at hx
 rcases hx with rfl|rfl|rfl|rfl<;>exact(by decide:(3:Nat)<2^30)
theorem ah.weak{P:Program}{dr:Bool}{f:FuncId}{args args':List V}{res:V}{h:Hz}{n:Nat}{K:V->Hz->Prop}{KW:Nat->V->Hz->Prop}(S:aj P f args' res)(hs:T.dN (fun _=>False) h.au (V.aV args') (V.aV args))(hr:res.free=true)(hK:K res h):ah P dr none f args h n K KW :=
 ⟨.inl (Ai.use S hs ⟨res,h,rfl,rfl,fun _=>⟨rfl,V.nY res hr⟩,hK⟩)⟩
theorem ah.on{P:Program}{f:FuncId}{args:List V}{h:Hz}{n:Nat}{K:V->Hz->Prop}{KW':Nat->V->Hz->Prop}(H:ah P false none f args h n K fun _ _ _=>False):ah P false (some true) f args h n K KW':=by
 rcases H.ok with H|⟨_,_,k,⟨_,_,_,_,_,_,hk⟩,_⟩|⟨_,e,_⟩
 ·exact⟨.inl (.inr ⟨rfl,fun _=>aS.mono H fun t hp ⟨v,h',a,b,_,c⟩=>⟨v,h',a,b,c⟩,fun e=>by cases e⟩)⟩
 ·exact hk.elim
 ·cases e
set_option maxHeartbeats 1000000 in
theorem S.En:aj Tryz.prog 11 [] (.bool true):=by
 refine aj.of Bd.D7 (by simp) rfl rfl ?_
 conv=>whnf
 refine ah.pure S.KH rfl ?_
 conv=>whnf
 refine ah.pure S.Bg rfl ?_
 conv=>whnf
 refine ah.pure (S.qy tK Di 9 H9 KI) rfl ?_
 rw[X4]
 generalize (Cc tK Di 9).2.2.2.2=rd
 conv=>whnf
 repeat(refine VC.mk (by first|exact id|exact fun h=>⟨h,h⟩|(intro h; simp only[h,true_and]; done)) ?_; conv=>whnf)
 have hsame:aj Tryz.prog 24 [.row 3 false (.elems LG),.row 3 true (.elems LG)] (.bool true):=by
  have:=S.yu LG LG false true (by decide) (by decide) D6.E D6.E
  rwa [decide_eq_true rfl] at this
 refine ah.on (ah.weak hsame ⟨aC _,⟨.inr ⟨⟨⟨aC _,uG,trivial⟩,⟨aC _,uG,trivial⟩,⟨aC _,uG,trivial⟩,⟨aC _,uG,trivial⟩,trivial⟩,fun t ht=>?_⟩,.inl rfl,fun h=>h⟩,trivial⟩ rfl ?_)
 ·obtain⟨x,_,rfl⟩:=List.mem_map.1 ht; rfl
 conv=>whnf
 repeat(refine VC.mk id ?_; conv=>whnf)
 refine ah.fM (fun _=>S.KH) rfl ?_
 conv=>whnf
 refine ah.fM (fun _=>S.Bg) rfl ?_
 conv=>whnf
 refine .mk (by intro h; simp_all; done) ?_
 conv=>whnf
 have af8:aj Tryz.prog 14 [.dat (.iF tK),.dat (.prop Di),.row 3 false (.elems LG)] (.bool true):=by
  have:=S.eP tK Di LG false H9 KI (by decide) D6
  rwa [X5] at this
 refine ah.fM (fun _=>af8) rfl ?_
 conv=>whnf
 refine VC.mk id ?_
 conv=>whnf
 exact ak.bool rfl
end Go.Proofs.YtkmldgihhaooaaaGreatDoor
