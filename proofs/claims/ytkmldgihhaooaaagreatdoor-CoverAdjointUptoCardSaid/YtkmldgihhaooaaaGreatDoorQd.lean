/-
 The backward search: the program's answer. No condition.
-/
import Derived.KernelRfl
import Derived.Test.YtkmldgihhaooaaaGreatDoorQc
namespace Go.Proofs.YtkmldgihhaooaaaGreatDoor
open Go.Ab Go.Proofs
set_option maxRecDepth 100000
theorem S.QZ(a b:Elem)(ha:a.counts.length<2^40)(hb:b.counts.length<2^40):ak Tryz.prog 94 [.dat (.elem a),.dat (.elem b)] (.bool (decide (a=b))):=by
 refine ak.of Bd.rF (by simp) rfl rfl ?_
 conv=>whnf
 refine ah.pure (S.iM a b ha hb) rfl ?_
 conv=>whnf
 refine aj.bool ?_
 rw[Bool.eq_iff_iff]; simp only[decide_eq_true_eq,beq_iff_eq]
 exact lV.symm
theorem ab6{a b:List Elem}{i:Nat}(hi:i<a.length)(hb:i<b.length)(h:a.take i=b.take i)(he:a.getD i default=b.getD i default):a.take (i+1)=b.take (i+1):=by
 rw[List.take_succ_eq_append_getElem hi,List.take_succ_eq_append_getElem hb,h,<- getD_some (d:=default) hi,<- getD_some (d:=default) hb,he]
theorem S.Nb(a b:List Elem)(f g:Bool)(ha:a.length<2^30)(hb:b.length<2^30)(sa:eF a)(sb:eF b):ak Tryz.prog 93 [.row 3 f (.elems a),.row 3 g (.elems b),.fn 94 []] (.bool (decide (a=b))):=by
 refine ak.of Bd.n93 (by simp) rfl rfl ?_
 conv=>whnf
 refine⟨fun h1=>?_,fun h1=>?_⟩
 ·replace h1:((a.length:Int) !=(b.length:Int))=true:=h1
  conv=>whnf
  refine aj.bool ?_
  rw[decide_eq_false]
  rintro rfl
  simp at h1
 have hl:a.length=b.length:=by
  replace h1:((a.length:Int) !=(b.length:Int))=false:=h1
  have:(a.length:Int)=b.length:=by simpa using h1
  omega
 conv=>whnf
 refine aG.objs 0 [15,16,1,2] (fun i:Nat=>[(17,.int i)]) (fun _=>[]) (fun i=>i<=a.length/\a.take i=b.take i) (fun i=>a.length-i) 0 [] rfl (by decide) (fun _=>rfl) ⟨Nat.zero_le _,rfl⟩ (sR rfl) trivial ?_
 conv=>whnf
 refine⟨(sR rfl),rfl,?_⟩
 rintro i ⟨hi,he⟩
 conv=>whnf
 refine⟨fun h2=>?_,fun h2=>?_⟩
 ·have hi':i<a.length:=by simpa using h2
  have hib:i<b.length:=by omega
  have ea:=sa (a.getD i default) (by rw[getD_some hi']; exact List.getElem_mem hi')
  have eb:=sb (b.getD i default) (by rw[getD_some hib]; exact List.getElem_mem hib)
  conv=>whnf
  repeat(refine VC.mk (by simp only[Rw.rng]; omega) ?_; conv=>whnf)
  refine ah.pure (S.QZ (a.getD i default) (b.getD i default) ea eb) rfl ?_
  conv=>whnf
  refine⟨fun h3=>?_,fun h3=>?_⟩
  ·replace h3:(!decide (a.getD i default=b.getD i default))=true:=h3
   have h3':a.getD i default≠b.getD i default:=by simpa using h3
   conv=>whnf
   refine aj.bool ?_
   rw[decide_eq_false]
   rintro rfl
   exact h3' rfl
  ·replace h3:(!decide (a.getD i default=b.getD i default))=false:=h3
   have h3':a.getD i default=b.getD i default:=by
    rw[Bool.not_eq_false'] at h3
    exact of_decide_eq_true h3
   conv=>whnf
   refine .mk (by simp only[okI] at *; first|omega|(simp_all; done)|(simp_all; omega)) ?_
   conv=>whnf
   exact⟨i+1,[],⟨hi',ab6 hi' hib he h3'⟩,by omega,(sR rfl),(sR rfl),trivial⟩
 ·have hi':i=a.length:=by have:=of_decide_eq_false h2; omega
  subst hi'
  rw[List.take_length,hl,List.take_length] at he
  conv=>whnf
  exact aj.bool (by rw[decide_eq_true he])
theorem S.Uf(l:List Elem)(f:Bool)(hl:l.length<2^30):aT Tryz.prog 92 (V.aW [.row 3 f (.elems l)]) (Hz.au []) 0 (fun t hp=>(l=[]/\t=T.nil/\hp=Hz.au [])\/(t= .own 0/\hp=Hz.au [(0,some (dF l))])):=by
 refine pX.of (nx:=0) (h0:=[]) Bd.fK (by simp) ⟨_,_,.inr ⟨rfl,rfl⟩⟩ rfl rfl ?_
 conv=>whnf
 refine X6.mk (fun hz=>?_) ?_
 ·have h0:l=[]:=List.eq_nil_of_length_eq_zero hz
  conv=>whnf
  refine Fork.mk (fun _=>?_) (fun q=>absurd (q.symm.trans ((rfl:true=true))) Bool.false_ne_true)
  conv=>whnf
  exact⟨fun _=>False,id,T.nil,Hz.au [],.inl ⟨h0,rfl,rfl⟩,aH _,(fun i ob hi=>by cases hi),(fun i j hi=>by cases hi),trivial,(fun i ob hi=>by cases hi),fun i hi=>by cases hi⟩
 ·conv=>whnf
  refine Fork.mk (fun q=>absurd (q.symm.trans ((rfl:false=false))).symm Bool.false_ne_true) (fun _=>?_)
  conv=>whnf
  refine .mk (by show(0+l.length)*32<=140737488355328/\0+l.length<=1152921504606846976; omega) ?_
  conv=>whnf
  exact jA.one (c:=0) (j:=5) (o:=dF l) (t:=.own 0) rfl rfl rfl nofun (.inr rfl) rfl (.eq rfl) (.inr ⟨rfl,rfl⟩)
theorem ah.Uf{h:Hz}{n:Nat}{l:List Elem}{f:Bool}{K:V->Hz->Prop}{KW:Nat->V->Hz->Prop}(hn:h.get n=none)(hl:l.length<2^30)
  (h1:l=[]->K (.row 0 true .nil) ((n,none)::h)) (h2:K (.own n) ((n,some (dF l))::h)):ah Tryz.prog false none 92 [.row 3 f (.elems l)] h n K KW:=by
 refine ah.TP [] (S.Uf l f hl) rfl rfl rfl rfl rfl trivial hn (by simp) ?_
 rintro t hp (⟨a,rfl,rfl⟩|⟨rfl,rfl⟩)
 ·exact⟨.row 0 true .nil,[none],rfl,rfl,⟨rfl,trivial⟩,h1 a⟩
 ·exact⟨.own n,[some (dF l)],rfl,rfl,⟨congrArg some (uy rfl _).symm,trivial⟩,h2⟩
theorem S.zB(l:List Elem)(hl:l.length<2^29)(hg: ∀ e∈l,Ag e):aT Tryz.prog 75 (V.aW [.own 0]) (Hz.au [(0,some (dF l))]) 1 (fun t hp=>t=(V.row 3 false (.elems (bF l))).aF/\hp=Hz.au []):=by
 refine aT.afc (S.yB l 1 (by decide) hl hg) ?_
 have hs: ∀ o:OV,Zr (fun _=>True) (Hz.au [(1,some o)])=Hz.au []:=fun o=>by
  funext i
  simp only[Zr,if_true]
  rfl
 rintro t hp (⟨rfl,rfl⟩|⟨m,rfl,rfl⟩)
 ·exact⟨fun _=>True,_,LD trivial rfl,rfl,rfl,hs _⟩
 ·exact⟨fun _=>True,_,(aj.X4 (m:=m) rfl).ok,rfl,rfl,hs _⟩
theorem ah.zB{h:Hz}{i n:Nat}{l:List Elem}{K:V->Hz->Prop}{KW:Nat->V->Hz->Prop}(hi:h.get i=some (dF l))(hn:h.get n=none)(hin:i≠n)(hl:l.length<2^29)(hg: ∀ e∈l,Ag e)
  (hK:K (.row 3 false (.elems (bF l))) ((i,none)::(n,none)::h)):ah Tryz.prog false none 75 [.own i] h n K KW:=by
 refine ah.TP [i] (S.zB l hl hg) rfl rfl rfl rfl rfl ⟨⟨_,hi,uy rfl _⟩,trivial⟩ hn (by simp; exact hin) ?_
 rintro t hp ⟨rfl,rfl⟩
 exact⟨_,[none,none],rfl,Qu rfl _,⟨rfl,rfl,trivial⟩,hK⟩
def lQ(p:aP)(b:List Elem)(i:Nat):List Elem:=b++(b.take i).flatMap fun x=>(pG p x).2
def growE(p:aP)(b:List Elem):Option (List Elem):=bif b.any (fun x=>(pG p x).1 !=0) then none else bif decide (100<(bF (lQ p b b.length)).length) then none else some (bF (lQ p b b.length))
def qy(p:aP):Nat->List Elem->Nat->Option (List Elem×Nat×Bool)
 |0,b,k=>match growE p b with
  |none=>none
  |some l=>some (b,k,decide (l=b))
 |f+1,b,k=>match growE p b with
  |none=>none
  |some l=>bif decide (l=b) then some (b,k,true) else qy p f l (k+1)
theorem zC{p:aP}{f:Nat}{b:List Elem}{k:Nat}(h:growE p b=none):qy p f b k=none:=by
 cases f<;>simp only[qy,h]
theorem Ky{p:aP}{f:Nat}{b:List Elem}{k:Nat}(h:growE p b=some b):qy p f b k=some (b,k,true):=by
 cases f<;>simp only[qy,h,decide_true,cond_true]
theorem Nc{p:aP}{b l:List Elem}{k:Nat}(h:growE p b=some l)(hn:l≠b):qy p 0 b k=some (b,k,false):=by
 simp only[qy,h,decide_eq_false hn]
theorem KA{p:aP}{f:Nat}{b l:List Elem}{k:Nat}(h:growE p b=some l)(hn:l≠b):qy p (f+1) b k=qy p f l (k+1):=by
 simp only[qy,h,decide_eq_false hn,cond_false]
theorem IZ{p:aP}{e:Elem}:(pG p e).1=0\/(pG p e).1=4:=by
 unfold pG
 cases p.rules.any (fun r=>(rO p r e).1 !=0)
 ·cases decide (100<(bF (jZ p e p.rules.length)).length)
  ·exact .inl rfl
  ·exact .inr rfl
 ·exact .inr rfl
theorem Ee{p:aP}{e:Elem}:(pG p e).2.length<=100:=by
 unfold pG
 cases p.rules.any (fun r=>(rO p r e).1 !=0)
 ·cases h:decide (100<(bF (jZ p e p.rules.length)).length) with
  |false=>have:=of_decide_eq_false h; show(bF _).length<=100; omega
  |true=>exact Nat.zero_le _
 ·exact Nat.zero_le _
theorem O6{p:aP}{e x:Elem}(hF:zY p e)(h:x∈(pG p e).2):nR p x=false:=by
 unfold pG at h
 cases h1:p.rules.any (fun r=>(rO p r e).1 !=0) with
 |true=>rw[h1] at h; cases h
 |false =>
  rw[h1,cond_false] at h
  cases h2:decide (100<(bF (jZ p e p.rules.length)).length) with
  |true=>rw[h2] at h; cases h
  |false=>rw[h2,cond_false] at h; exact Kv hF (rZ h)
theorem KC{p:aP}{b:List Elem}{i:Nat}(hi:i<b.length):lQ p b (i+1)=lQ p b i++(pG p (b.getD i default)).2:=by
 unfold lQ
 rw[List.take_succ_eq_append_getElem hi,List.flatMap_append,getD_some hi,List.append_assoc]; simp
theorem Nh{p:aP}{b:List Elem}{i:Nat}:(lQ p b i).length<=b.length+i*100:=by
 have: ∀ L:List Elem,(L.flatMap fun r=>(pG p r).2).length<=L.length*100:=by
  intro L
  induction L with
  |nil=>simp
  |cons c L ih=>rw[List.flatMap_cons,List.length_append,List.length_cons,Nat.succ_mul]; have:=@Ee p c; omega
 unfold lQ
 rw[List.length_append]
 have h1:=this (b.take i)
 have h2:(b.take i).length*100<=i*100:=Nat.mul_le_mul_right _ (by rw[List.length_take]; omega)
 omega
def Ic(p:aP)(b:List Elem):Prop:= ∀ x∈b,zY p x
theorem GY{p:aP}{b:List Elem}{i:Nat}(hb:Ic p b):Ic p (lQ p b i):=by
 intro x hx
 rcases List.mem_append.1 hx with hx|hx
 ·exact hb x hx
 ·obtain⟨y,hy,hx⟩:=List.mem_flatMap.1 hx
  have hF:=hb y (List.mem_of_mem_take hy)
  exact ZY hF (O6 hF hx)
theorem Nj{p:aP}{x:Elem}(h:zY p x):Ag x:=by
 have h1:=h.valid.states
 have h2:=h.len
 exact⟨by omega,fun y hy=>by have:=h.nums y hy; omega⟩
theorem Xx{p:aP}{b l:List Elem}(hb:Ic p b)(h:growE p b=some l):Ic p l/\l.length<=100:=by
 unfold growE at h
 cases h1:b.any (fun x=>(pG p x).1 !=0) with
 |true=>rw[h1] at h; cases h
 |false =>
  rw[h1,cond_false] at h
  cases h2:decide (100<(bF (lQ p b b.length)).length) with
  |true=>rw[h2] at h; cases h
  |false =>
   rw[h2,cond_false] at h
   cases h
   exact⟨fun x hx=>GY hb x (rZ hx),by have:=of_decide_eq_false h2; omega⟩
def Q5(o:Option (List Elem×Nat×Bool)):V:=match o with
 |none=>.cO [.row 3 false (.elems []),.int 0,.bool false,.int 4]
 |some (b,k,d)=>.cO [.row 3 false (.elems b),.int k,.bool d,.int 0]
theorem Nk(o:Option (List Elem×Nat×Bool)):(Q5 o).free=true:=by
 match o with
 |none=>rfl
 |some (b,k,d)=>rfl
theorem aj.Q7{h:Hz}{a c:V}{b:Bool}:aj (.cO [.row 3 false (.elems []),a,.bool b,c]) (.cO [.row 0 true .nil,a,.bool b,c]) h:=⟨by
 show T.sub (fun _=>True) h.au (.cO [.sl 3 false [],a.aF,(V.bool b).aF,c.aF]) (.cO [.sl 0 true [],a.aF,(V.bool b).aF,c.aF])
 simp only[T.sub,T.dJ]
 exact⟨⟨.inl trivial,.inr trivial,fun h=>by cases h⟩,aH _,aH _,aH _,trivial⟩⟩
def Ie(p:aP)(q:Prop')(rounds:Int):Option (List Elem×Nat×Bool):=bif decide (100<(kT p q).length) then none else qy p rounds.toNat (kT p q) 0
theorem Vj{p:aP}{q:Prop'}(hc:fU p q=0):Ic p (kT p q):=by
 obtain⟨_,_,b3,b4⟩:=Nw hc
 have hcov:Dc p=0:=by unfold Dc; rw[show(bg p !=0)=false by simp[b3],b4]; rfl
 intro x hx
 refine IU hcov ?_
 unfold kT at hx
 rw[show(fU p q !=0)=false by simp[hc],cond_false] at hx
 obtain⟨w,hw,h3⟩:=List.mem_flatMap.1 hx
 obtain⟨u,_,rfl⟩:=List.mem_map.1 h3
 have hw':=List.mem_range.1 hw
 unfold nR
 have hl:(oI p.states.length u).length=p.states.length:=jv
 have hall:(oI p.states.length u).all Aa=true:=by
  rw[List.all_eq_true]
  intro y hy
  have:=Eo y hy
  cases hk:Aa y with
  |true=>rfl
  |false =>
   have h:=OJ (x:=y)
   rw[hk] at h
   simp only[Bool.not_false,Bool.or_eq_true,decide_eq_true_eq] at h
   omega
 show(((((oI p.states.length u).length:Int) !=p.states.length)|| !((oI p.states.length u).all Aa))||decide ((w:Int)<0)||decide ((w:Int)>=max 1 (p.values.length:Int)))=false
 rw[hl,hall,decide_eq_false (by omega: ¬ (w:Int)<0),decide_eq_false (by omega: ¬ (w:Int)>=max 1 (p.values.length:Int))]
 simp
set_option maxHeartbeats 2000000 in
theorem S.oD(p:aP)(q:Prop')(rounds:Int)(hp:fM p)(hq:uH q)(hc:fU p q=0)(hr:rounds<2^40):ak Tryz.prog 57 [.dat (.iU p),.dat (.prop q),.int rounds] (Q5 (Ie p q rounds)):=by
 have hbf:=Vj hc
 obtain⟨l1,l2⟩:=Hf p q hp
 obtain⟨_,b2,b3,_⟩:=Nw hc
 have hv:=Nu b3
 have v1:=hv.pos; have v2:=hv.states; have v3:=hv.values
 have hbad:kT p q=bF (vU q p.states.length (max 1 p.values.length) (4 ^ p.states.length)):=by rw[kT,show(fU p q !=0)=false by simp[hc],bad_law]; rfl
 generalize hres:Q5 (Ie p q rounds)=res
 refine ak.of Bd.oD (by simp) rfl (by rw[<- hres]; exact Nk _) ?_
 conv=>whnf
 refine ah.pure (S.iY p q p.states.length (max 1 p.values.length) hp hq rfl v1 v2 rfl (by omega) b2) rfl ?_
 conv=>whnf
 rw[<- hbad]
 by_cases afh:100<(kT p q).length
 ·have hB:Ie p q rounds=none:=by unfold Ie; rw[decide_eq_true afh]; rfl
  refine aG.times 1 rfl ?_
  conv=>whnf
  refine Fork.mk (fun _=>?_) (fun q=>absurd (q.symm.trans (decide_eq_true (by omega))) Bool.false_ne_true)
  conv=>whnf
  rw[<- hres,hB]
  exact aj.Q7
 have hB:Ie p q rounds=qy p rounds.toNat (kT p q) 0:=by unfold Ie; rw[decide_eq_false afh]; rfl
 refine aG.objs 4 [2,3,4] (fun x:Nat×List Elem=>[(11,.int x.1),(10,.row 3 false (.elems x.2))]) (fun _=>[(0,KN p),(1,OI q)]) (fun x=>x.2.length<=100/\Ic p x.2/\Q5 (qy p (rounds-(x.1:Int)).toNat x.2 x.1)=res) (fun x=>(rounds-(x.1:Int)).toNat) (0,kT p q) [0,1] rfl (by decide) (fun _=>rfl) ⟨by show(kT p q).length<=100; omega,hbf,by rw[<- hres,hB]; show Q5 (qy p (rounds-((0:Nat):Int)).toNat _ _)=_; rw[show rounds-((0:Nat):Int)=rounds by omega]⟩ (sR rfl) ⟨⟨rfl,nofun,rfl,rfl,rfl,_,rfl,rfl,rfl,aI.of_eq rfl⟩,⟨rfl,nofun,rfl,rfl,rfl,_,rfl,rfl,rfl,aI.of_eq rfl⟩,trivial⟩ ?_
 conv=>whnf
 refine⟨(sR rfl),rfl,?_⟩
 rintro⟨k,b⟩ ⟨Z8,hfit,hR⟩
 replace Z8:b.length<=100:=Z8
 replace hfit:Ic p b:=hfit
 replace hR:Q5 (qy p (rounds-(k:Int)).toNat b k)=res:=hR
 conv=>whnf
 refine Fork.mk (fun q=>absurd (q.symm.trans (decide_eq_false (show ¬ 100<(b.length:Int) by omega))).symm Bool.false_ne_true) (fun _=>?_)
 conv=>whnf
 refine ah.Uf rfl (show b.length<2^30 by omega) (fun h0=>?_) ?_
 ·replace h0:b=[]:=h0
  conv=>whnf
  refine aG.nil 12 35 3 (by rfl) rfl rfl rfl ?_
  refine aG.objs 4 [27,28,10,11,2,3,4] (fun i:Nat=>[(29,.int i),(12,.own 2)]) (fun i=>[(0,KN p),(1,OI q),(2,dF (lQ p b i))]) (fun i=>i<=b.length/\(b.take i).any (fun x=>(pG p x).1 !=0)=false) (fun i=>b.length-i) 0 [0,1,13] rfl (by decide) (fun _=>rfl) ⟨Nat.zero_le _,rfl⟩ (sR rfl) ⟨⟨rfl,nofun,rfl,rfl,rfl,_,rfl,rfl,rfl,aI.of_eq rfl⟩,⟨rfl,nofun,rfl,rfl,rfl,_,rfl,rfl,rfl,aI.of_eq rfl⟩,⟨rfl,nofun,rfl,rfl,rfl,_,rfl,rfl,rfl,aI.of_eq (by rw[h0]; rfl)⟩,trivial⟩ ?_
  conv=>whnf
  refine⟨(sR rfl),rfl,?_⟩
  rintro i ⟨hi,hno⟩
  have hgl:=Nh (p:=p) (b:=b) (i:=i)
  conv=>whnf
  refine⟨fun h2=>?_,fun h2=>?_⟩
  ·have hi':i<b.length:=by simpa using h2
   have hmem:b.getD i default∈b:=by rw[getD_some hi']; exact List.getElem_mem hi'
   have hFx:=hfit _ hmem
   have hst:=KC (p:=p) hi'
   have hpl:=@Ee p (b.getD i default)
   have hpe:=@IZ p (b.getD i default)
   conv=>whnf
   refine .mk (by simp only[Rw.rng] at *; first|omega|(simp_all; done)|(simp_all; omega)) ?_
   conv=>whnf
   refine ah.pure (S.tC p (b.getD i default) hp hFx) rfl ?_
   generalize hQ:pG p (b.getD i default)=Q at hst hpl hpe
   conv=>whnf
   refine⟨fun h3=>?_,fun h3=>?_⟩
   ·replace h3:(Q.1 !=0)=true:=h3
    have h4:Q.1=4:=by
     rcases hpe with h|h
     ·rw[h] at h3; cases h3
     ·exact h
    have hnone:growE p b=none:=by
     unfold growE
     rw[List.any_eq_true.2 ⟨_,hmem,by rw[hQ]; exact h3⟩]; rfl
    conv=>whnf
    rw[<- hR,zC hnone,h4]
    exact aj.Q7
   ·replace h3:(Q.1 !=0)=false:=h3
    conv=>whnf
    repeat(refine VC.mk (by first|(show((lQ p b i).length+Q.2.length)*32<=140737488355328/\(lQ p b i).length+Q.2.length<=1152921504606846976; omega)|(simp only[okI] at *; first|omega|(simp_all; done)|(simp_all; omega))) ?_; conv=>whnf)
    refine⟨i+1,[0,1,21],⟨hi',?_⟩,by omega,(sR rfl),(sR rfl),⟨rfl,nofun,rfl,rfl,rfl,_,rfl,rfl,rfl,aI.of_eq rfl⟩,⟨rfl,nofun,rfl,rfl,rfl,_,rfl,rfl,rfl,aI.of_eq rfl⟩,⟨rfl,nofun,rfl,rfl,rfl,_,rfl,rfl,rfl,aI.of_eq (by rw[hst])⟩,trivial⟩
    rw[List.take_succ_eq_append_getElem hi',List.any_append,hno,Bool.false_or,<- getD_some (d:=default) hi']
    show((pG p (b.getD i default)).1 !=0||false)=false
    rw[hQ,h3]; rfl
  have hi':i=b.length:=by replace h2:decide ((i:Int)<(b.length:Int))=false:=h2; have:=of_decide_eq_false h2; omega
  subst hi'
  rw[List.take_length] at hno
  have hgr:growE p b=bif decide (100<(bF (lQ p b b.length)).length) then none else some (bF (lQ p b b.length)):=by unfold growE; rw[hno]; rfl
  have hgf:=GY (i:=b.length) hfit
  conv=>whnf
  refine ah.zB rfl rfl (by decide) (by omega) (fun x hx=>Nj (hgf x hx)) ?_
  have hml:=Dt (lQ p b b.length)
  have hnf:Ic p (bF (lQ p b b.length)):=fun x hx=>hgf x (rZ hx)
  generalize hM:bF (lQ p b b.length)=M at hgr hml hnf
  conv=>whnf
  refine⟨fun h3=>?_,fun h3=>?_⟩
  ·replace h3:decide (100<(M.length:Int))=true:=h3
   have:=of_decide_eq_true h3
   rw[decide_eq_true (by omega:100<M.length),cond_true] at hgr
   conv=>whnf
   rw[<- hR,zC hgr]
   exact aj.Q7
  replace h3:decide (100<(M.length:Int))=false:=h3
  have afi:=of_decide_eq_false h3
  rw[decide_eq_false (by omega: ¬ 100<M.length),cond_false] at hgr
  conv=>whnf
  refine ah.pure (S.Nb M b false false (by omega) (by omega) (fun x hx=>by have:=(hnf x hx).len; have:=(hnf x hx).valid.states; omega) (fun x hx=>by have:=(hfit x hx).len; have:=(hfit x hx).valid.states; omega)) rfl ?_
  conv=>whnf
  refine⟨fun h4=>?_,fun h4=>?_⟩
  ·have VO:M=b:=of_decide_eq_true h4
   rw[VO] at hgr
   conv=>whnf
   rw[<- hR,Ky hgr]
   exact aj.eqv rfl
  have VO:M≠b:=of_decide_eq_false h4
  conv=>whnf
  refine⟨fun h5=>?_,fun h5=>?_⟩
  ·have hkr:(rounds-(k:Int)).toNat=0:=by have:=of_decide_eq_true h5; omega
   conv=>whnf
   rw[<- hR,hkr,Nc hgr VO]
   exact aj.eqv rfl
  ·have hkr:(rounds-(k:Int)).toNat=(rounds-((k+1:Nat):Int)).toNat+1:=by have:=of_decide_eq_false h5; omega
   conv=>whnf
   refine .mk (by simp only[okI] at *; first|omega|(simp_all; done)|(simp_all; omega)) ?_
   conv=>whnf
   refine⟨(k+1,M),[0,1],⟨by show M.length<=100; omega,hnf,?_⟩,?_,(sR rfl),(sR rfl),⟨rfl,nofun,rfl,rfl,rfl,_,rfl,rfl,rfl,aI.of_eq rfl⟩,⟨rfl,nofun,rfl,rfl,rfl,_,rfl,rfl,rfl,aI.of_eq rfl⟩,trivial⟩
   ·show Q5 (qy p (rounds-((k+1:Nat):Int)).toNat M (k+1))=res
    rw[<- hR,hkr,KA hgr VO]
   ·show(rounds-((k+1:Nat):Int)).toNat<(rounds-(k:Int)).toNat
    omega
 ·conv=>whnf
  refine aG.objs 4 [27,28,10,11,2,3,4] (fun i:Nat=>[(29,.int i),(12,.own 2)]) (fun i=>[(0,KN p),(1,OI q),(2,dF (lQ p b i))]) (fun i=>i<=b.length/\(b.take i).any (fun x=>(pG p x).1 !=0)=false) (fun i=>b.length-i) 0 [0,1,8] rfl (by decide) (fun _=>rfl) ⟨Nat.zero_le _,rfl⟩ (sR rfl) ⟨⟨rfl,nofun,rfl,rfl,rfl,_,rfl,rfl,rfl,aI.of_eq rfl⟩,⟨rfl,nofun,rfl,rfl,rfl,_,rfl,rfl,rfl,aI.of_eq rfl⟩,⟨rfl,nofun,rfl,rfl,rfl,_,rfl,rfl,rfl,aI.of_eq (by unfold lQ; simp)⟩,trivial⟩ ?_
  conv=>whnf
  refine⟨(sR rfl),rfl,?_⟩
  rintro i ⟨hi,hno⟩
  have hgl:=Nh (p:=p) (b:=b) (i:=i)
  conv=>whnf
  refine⟨fun h2=>?_,fun h2=>?_⟩
  ·have hi':i<b.length:=by simpa using h2
   have hmem:b.getD i default∈b:=by rw[getD_some hi']; exact List.getElem_mem hi'
   have hFx:=hfit _ hmem
   have hst:=KC (p:=p) hi'
   have hpl:=@Ee p (b.getD i default)
   have hpe:=@IZ p (b.getD i default)
   conv=>whnf
   refine .mk (by simp only[Rw.rng] at *; first|omega|(simp_all; done)|(simp_all; omega)) ?_
   conv=>whnf
   refine ah.pure (S.tC p (b.getD i default) hp hFx) rfl ?_
   generalize hQ:pG p (b.getD i default)=Q at hst hpl hpe
   conv=>whnf
   refine⟨fun h3=>?_,fun h3=>?_⟩
   ·replace h3:(Q.1 !=0)=true:=h3
    have h4:Q.1=4:=by
     rcases hpe with h|h
     ·rw[h] at h3; cases h3
     ·exact h
    have hnone:growE p b=none:=by
     unfold growE
     rw[List.any_eq_true.2 ⟨_,hmem,by rw[hQ]; exact h3⟩]; rfl
    conv=>whnf
    rw[<- hR,zC hnone,h4]
    exact aj.Q7
   ·replace h3:(Q.1 !=0)=false:=h3
    conv=>whnf
    repeat(refine VC.mk (by first|(show((lQ p b i).length+Q.2.length)*32<=140737488355328/\(lQ p b i).length+Q.2.length<=1152921504606846976; omega)|(simp only[okI] at *; first|omega|(simp_all; done)|(simp_all; omega))) ?_; conv=>whnf)
    refine⟨i+1,[0,1,21],⟨hi',?_⟩,by omega,(sR rfl),(sR rfl),⟨rfl,nofun,rfl,rfl,rfl,_,rfl,rfl,rfl,aI.of_eq rfl⟩,⟨rfl,nofun,rfl,rfl,rfl,_,rfl,rfl,rfl,aI.of_eq rfl⟩,⟨rfl,nofun,rfl,rfl,rfl,_,rfl,rfl,rfl,aI.of_eq (by rw[hst])⟩,trivial⟩
    rw[List.take_succ_eq_append_getElem hi',List.any_append,hno,Bool.false_or,<- getD_some (d:=default) hi']
    show((pG p (b.getD i default)).1 !=0||false)=false
    rw[hQ,h3]; rfl
  have hi':i=b.length:=by replace h2:decide ((i:Int)<(b.length:Int))=false:=h2; have:=of_decide_eq_false h2; omega
  subst hi'
  rw[List.take_length] at hno
  have hgr:growE p b=bif decide (100<(bF (lQ p b b.length)).length) then none else some (bF (lQ p b b.length)):=by unfold growE; rw[hno]; rfl
  have hgf:=GY (i:=b.length) hfit
  conv=>whnf
  refine ah.zB rfl rfl (by decide) (by omega) (fun x hx=>Nj (hgf x hx)) ?_
  have hml:=Dt (lQ p b b.length)
  have hnf:Ic p (bF (lQ p b b.length)):=fun x hx=>hgf x (rZ hx)
  generalize hM:bF (lQ p b b.length)=M at hgr hml hnf
  conv=>whnf
  refine⟨fun h3=>?_,fun h3=>?_⟩
  ·replace h3:decide (100<(M.length:Int))=true:=h3
   have:=of_decide_eq_true h3
   rw[decide_eq_true (by omega:100<M.length),cond_true] at hgr
   conv=>whnf
   rw[<- hR,zC hgr]
   exact aj.Q7
  replace h3:decide (100<(M.length:Int))=false:=h3
  have afi:=of_decide_eq_false h3
  rw[decide_eq_false (by omega: ¬ 100<M.length),cond_false] at hgr
  conv=>whnf
  refine ah.pure (S.Nb M b false false (by omega) (by omega) (fun x hx=>by have:=(hnf x hx).len; have:=(hnf x hx).valid.states; omega) (fun x hx=>by have:=(hfit x hx).len; have:=(hfit x hx).valid.states; omega)) rfl ?_
  conv=>whnf
  refine⟨fun h4=>?_,fun h4=>?_⟩
  ·have VO:M=b:=of_decide_eq_true h4
   rw[VO] at hgr
   conv=>whnf
   rw[<- hR,Ky hgr]
   exact aj.eqv rfl
  have VO:M≠b:=of_decide_eq_false h4
  conv=>whnf
  refine⟨fun h5=>?_,fun h5=>?_⟩
  ·have hkr:(rounds-(k:Int)).toNat=0:=by have:=of_decide_eq_true h5; omega
   conv=>whnf
   rw[<- hR,hkr,Nc hgr VO]
   exact aj.eqv rfl
  ·have hkr:(rounds-(k:Int)).toNat=(rounds-((k+1:Nat):Int)).toNat+1:=by have:=of_decide_eq_false h5; omega
   conv=>whnf
   refine .mk (by simp only[okI] at *; first|omega|(simp_all; done)|(simp_all; omega)) ?_
   conv=>whnf
   refine⟨(k+1,M),[0,1],⟨by show M.length<=100; omega,hnf,?_⟩,?_,(sR rfl),(sR rfl),⟨rfl,nofun,rfl,rfl,rfl,_,rfl,rfl,rfl,aI.of_eq rfl⟩,⟨rfl,nofun,rfl,rfl,rfl,_,rfl,rfl,rfl,aI.of_eq rfl⟩,trivial⟩
   ·show Q5 (qy p (rounds-((k+1:Nat):Int)).toNat M (k+1))=res
    rw[<- hR,hkr,KA hgr VO]
   ·show(rounds-((k+1:Nat):Int)).toNat<(rounds-(k:Int)).toNat
    omega
def bkX(p:aP)(q:Prop')(rounds:Int):Int×List Elem×Bool:=bif fU p q !=0 then(fU p q,[],false) else bif decide (100<rounds) then(1,[],false) else match Ie p q rounds with
 |none=>(4,[],false)
 |some (b,_,d)=>(0,b,d)
def ab7(p:aP)(q:Prop')(s:Int×Int)(x:Elem):Int×Int:=bif En p q x&&(s.1==1||decide (dO x<s.2)) then(2,dO x) else s
def Ig(p:aP)(q:Prop')(b:List Elem)(i:Nat):Int×Int:=(b.take i).foldl (ab7 p q) (1,0)
theorem Xy{p:aP}{q:Prop'}{b:List Elem}{i:Nat}(hi:i<b.length):Ig p q b (i+1)=ab7 p q (Ig p q b i) (b.getD i default):=by
 unfold Ig
 rw[List.take_succ_eq_append_getElem hi,List.foldl_append,getD_some hi]; rfl
def OL(p:aP)(q:Prop')(rounds:Int):Int×Int×List Elem×Int×Int:=bif fU p q !=0 then(fU p q,0,[],0,0) else bif decide (100<rounds) then(1,0,[],0,0) else match Ie p q rounds with
 |none=>(4,0,[],0,0)
 |some (b,k,d)=>bif d then(0,(Ig p q b b.length).1,b,(Ig p q b b.length).2,k) else(0,0,[],0,k)
def afj(x:Int×Int×List Elem×Int×Int):V:=.cO [.agg [.int x.2.1,.row 3 false (.elems x.2.2.1),.int x.2.2.2.1,.int x.2.2.2.2],.int x.1]
theorem aj.ab8{h:Hz}{a c d e:V}:aj (.cO [.agg [a,.row 3 false (.elems []),c,d],e]) (.cO [.agg [a,.row 0 true .nil,c,d],e]) h:=⟨by
 show T.sub (fun _=>True) h.au (.cO [.agg [a.aF,.sl 3 false [],c.aF,d.aF],e.aF]) (.cO [.agg [a.aF,.sl 0 true [],c.aF,d.aF],e.aF])
 simp only[T.sub,T.dJ]
 exact⟨⟨aH _,⟨.inl trivial,.inr trivial,fun h=>by cases h⟩,aH _,aH _,trivial⟩,aH _,trivial⟩⟩
abbrev boxS(a:Int)(b:List Elem)(c d:Int):OV:=.box 56 5 (.agg [.int a,.row 3 false (.elems b),.int c,.int d])
theorem Z9{p:aP}{q:Prop'}{rounds:Int}{b:List Elem}{k:Nat}{d:Bool}(hc:fU p q=0)(h:Ie p q rounds=some (b,k,d)):Ic p b/\b.length<=100:=by
 unfold Ie at h
 cases h1:decide (100<(kT p q).length) with
 |true=>rw[h1] at h; cases h
 |false =>
  rw[h1,cond_false] at h
  have: ∀ f b0 k0,Ic p b0->b0.length<=100->qy p f b0 k0=some (b,k,d)->Ic p b/\b.length<=100:=by
   intro f
   induction f with
   |zero =>
    intro b0 k0 h1 h2 h3
    simp only[qy] at h3
    split at h3
    ·cases h3
    ·cases h3; exact⟨h1,h2⟩
   |succ f ih =>
    intro b0 k0 h1 h2 h3
    simp only[qy] at h3
    split at h3
    ·cases h3
    ·rename_i l hl
     obtain⟨g1,g2⟩:=Xx h1 hl
     cases he:decide (l=b0) with
     |true=>rw[he] at h3; cases h3; exact⟨h1,h2⟩
     |false=>rw[he] at h3; exact ih l _ g1 g2 h3
  exact this _ _ _ (Vj hc) (by have:=of_decide_eq_false h1; omega) h
set_option maxHeartbeats 1000000 in
theorem S.uD(p:aP)(q:Prop')(rounds:Int)(hp:fM p)(hq:uH q):ak Tryz.prog 28 [.dat (.iU p),.dat (.prop q),.int rounds] (afj (OL p q rounds)):=by
 generalize hres:afj (OL p q rounds)=res
 refine ak.of Bd.uD (by simp) rfl (by rw[<- hres]; rfl) ?_
 conv=>whnf
 refine ah.pure (S.nV p q hp hq) rfl ?_
 conv=>whnf
 refine⟨fun h1=>?_,fun h1=>?_⟩
 ·replace h1:(fU p q !=0)=true:=h1
  conv=>whnf
  rw[<- hres,OL,h1]
  exact aj.ab8
 replace h1:(fU p q !=0)=false:=h1
 conv=>whnf
 refine⟨fun h2=>?_,fun h2=>?_⟩
 ·replace h2:decide (100<rounds)=true:=h2
  conv=>whnf
  rw[<- hres,OL,h1,h2]
  exact aj.ab8
 replace h2:decide (100<rounds)=false:=h2
 have hr:=of_decide_eq_false h2
 have hX:OL p q rounds=match Ie p q rounds with
  |none=>(4,0,[],0,0)
  |some (b,k,d)=>bif d then(0,(Ig p q b b.length).1,b,(Ig p q b b.length).2,k) else(0,0,[],0,k):=by rw[OL,h1,h2]; rfl
 conv=>whnf
 refine ah.pure (S.oD p q rounds hp hq (Ce h1) (by omega)) (Nk _) ?_
 match hs:Ie p q rounds with
 |none =>
  rw[hs] at hX
  conv=>whnf
  refine Fork.mk (fun _=>?_) (fun q=>absurd (q.symm.trans (rfl)) Bool.false_ne_true)
  conv=>whnf
  rw[<- hres,hX]
  exact aj.ab8
 |some (b,k,false) =>
  rw[hs] at hX
  conv=>whnf
  refine Fork.mk (fun q=>absurd (q.symm.trans (rfl)).symm Bool.false_ne_true) (fun _=>?_)
  conv=>whnf
  refine Fork.mk (fun _=>?_) (fun q=>absurd (q.symm.trans (rfl)) Bool.false_ne_true)
  conv=>whnf
  rw[<- hres,hX]
  exact aj.ab8
 |some (b,k,true) =>
  rw[hs] at hX
  obtain⟨hfit,Z8⟩:=Z9 (Ce h1) hs
  conv=>whnf
  refine Fork.mk (fun q=>absurd (q.symm.trans (rfl)).symm Bool.false_ne_true) (fun _=>?_)
  conv=>whnf
  refine Fork.mk (fun q=>absurd (q.symm.trans (rfl)).symm Bool.false_ne_true) (fun _=>?_)
  conv=>whnf
  refine aG.objs 4 [47,48,3,4,6] (fun i:Nat=>[(49,.int i),(13,.ptr 3 0 0)]) (fun i=>[(0,KN p),(1,OI q),(2,.box 56 5 (.agg [.int 0,.row 0 true .nil,.int 0,.int 0])),(3,boxS (Ig p q b i).1 b (Ig p q b i).2 k)]) (fun i=>i<=b.length) (fun i=>b.length-i) 0 [0,1,2,32] rfl (by decide) (fun _=>rfl) (Nat.zero_le _) (sR rfl) ⟨⟨rfl,nofun,rfl,rfl,rfl,_,rfl,rfl,rfl,aI.of_eq rfl⟩,⟨rfl,nofun,rfl,rfl,rfl,_,rfl,rfl,rfl,aI.of_eq rfl⟩,⟨rfl,nofun,rfl,rfl,rfl,_,rfl,rfl,rfl,aI.of_eq rfl⟩,⟨rfl,nofun,rfl,rfl,rfl,_,rfl,rfl,rfl,aI.of_eq rfl⟩,trivial⟩ ?_
  conv=>whnf
  refine⟨(sR rfl),rfl,?_⟩
  rintro i hi
  conv=>whnf
  refine⟨fun h3=>?_,fun h3=>?_⟩
  ·have hi':i<b.length:=by simpa using h3
   have hst:=Xy (p:=p) (q:=q) hi'
   have hF:=hfit (b.getD i default) (by rw[getD_some hi']; exact List.getElem_mem hi')
   have hle:(b.getD i default).counts.length<2^30:=by have:=hF.len; have:=hF.valid.states; omega
   conv=>whnf
   refine .mk (by simp only[Rw.rng] at *; first|omega|(simp_all; done)|(simp_all; omega)) ?_
   conv=>whnf
   refine ah.pure (S.nX (b.getD i default) (by omega)) rfl ?_
   conv=>whnf
   refine ah.pure (S.mW p q (b.getD i default) hp hq hle (Di (Ce h1))) rfl ?_
   generalize hS:Ig p q b i=s at hst
   conv=>whnf
   repeat(refine VC.mk (by first|exact id|exact fun h=>⟨h,h⟩|(intro h; simp_all; done)) ?_; conv=>whnf)
   refine⟨fun h4=>?_,fun h4=>?_⟩
   ·replace h4:(En p q (b.getD i default)&&(s.1==1||decide (dO (b.getD i default)<s.2)))=true:=h4
    have hst':Ig p q b (i+1)=(2,dO (b.getD i default)):=by rw[hst,ab7,h4]; rfl
    conv=>whnf
    refine .mk (by simp only[okI] at *; first|omega|(simp_all; done)|(simp_all; omega)) ?_
    conv=>whnf
    exact⟨i+1,[0,1,2,3],hi',by omega,(sR rfl),(sR rfl),⟨rfl,nofun,rfl,rfl,rfl,_,rfl,rfl,rfl,aI.of_eq rfl⟩,⟨rfl,nofun,rfl,rfl,rfl,_,rfl,rfl,rfl,aI.of_eq rfl⟩,⟨rfl,nofun,rfl,rfl,rfl,_,rfl,rfl,rfl,aI.of_eq rfl⟩,⟨rfl,nofun,rfl,rfl,rfl,_,rfl,rfl,rfl,aI.of_eq (by rw[hst']; rfl)⟩,trivial⟩
   ·replace h4:(En p q (b.getD i default)&&(s.1==1||decide (dO (b.getD i default)<s.2)))=false:=h4
    have hst':Ig p q b (i+1)=s:=by rw[hst,ab7,h4]; rfl
    conv=>whnf
    refine .mk (by simp only[okI] at *; first|omega|(simp_all; done)|(simp_all; omega)) ?_
    conv=>whnf
    exact⟨i+1,[0,1,2,3],hi',by omega,(sR rfl),(sR rfl),⟨rfl,nofun,rfl,rfl,rfl,_,rfl,rfl,rfl,aI.of_eq rfl⟩,⟨rfl,nofun,rfl,rfl,rfl,_,rfl,rfl,rfl,aI.of_eq rfl⟩,⟨rfl,nofun,rfl,rfl,rfl,_,rfl,rfl,rfl,aI.of_eq rfl⟩,⟨rfl,nofun,rfl,rfl,rfl,_,rfl,rfl,rfl,aI.of_eq (by rw[hst'])⟩,trivial⟩
  ·have hi':i=b.length:=by have:=of_decide_eq_false h3; omega
   subst hi'
   conv=>whnf
   rw[<- hres,hX]
   exact aj.eqv rfl
def GZ(name:Str)(fr tt read write:Int):Rule:=⟨name,1,fr,tt,0,0,[],[],[],[],read,write,[],0,[],[],[],0⟩
def tH:aP:=⟨[109,120],1,[[105],[119],[99]],[],[[102,114,101,101],[104,101,108,100]],0,[],[0],[],[GZ [97,115,107] 0 1 (-1) (-1),GZ [116,97,107,101] 1 2 0 1,GZ [108,101,97,118,101] 2 0 1 0]⟩
def CW:Prop':=⟨[101,120],1,[],[⟨[2],2⟩],[],[]⟩
theorem zD{name:Str}{fr tt read write:Int}(_h:name.length<2^30):sG (GZ name fr tt read write):=by
 constructor<;>simp[GZ]
theorem H7:fM tH:=by
 refine⟨by decide,by decide,by decide,by decide,by decide,by decide,by decide,fun i=>?_,by decide⟩
 match i with
 |0=>exact zD (by decide)
 |1=>exact zD (by decide)
 |2=>exact zD (by decide)
 |i+3=>constructor<;>exact(by decide:(0:Nat)<2^30)
def FI:V:=.row 0 true .nil
def Vk(name:Str)(fr tt rd wr:Int):V:=.agg [.str name,.int 1,.int fr,.int tt,.int 0,.int 0,FI,FI,FI,FI,.int rd,.int wr,FI,.int 0,FI,FI,FI,.int 0]
def aac:V:=.agg [.str tH.name,.int 1,.row 0 false (.strs tH.states),FI,.row 0 false (.strs tH.values),.int 0,FI,.row 0 false (.ints [0]),FI,.Gv 19 false [Vk [97,115,107] 0 1 (-1) (-1),Vk [116,97,107,101] 1 2 0 1,Vk [108,101,97,118,101] 2 0 1 0]]
theorem uF{Z:Nat->Prop}{h:Hp}{k:Nat}{l:List T}:T.sub Z h (.sl k false l) (.sl k true l):=⟨.inl rfl,.inl rfl,fun h=>by cases h⟩
theorem nP{Z:Nat->Prop}{h:Hp}{k:Nat}:T.sub Z h (.sl k false []) T.nil:=⟨.inl rfl,.inr rfl,fun h=>by cases h⟩
theorem ak.weak{P:Program}{f:FuncId}{args:List V}{a b:V}(S:ak P f args a)(hs:T.sub (fun _=>True) no b.aF a.aF)(hb:b.free=true):ak P f args b :=
 zX.shut S (fun _=>hs) (V.nZ b hb)
theorem KD{Z:Nat->Prop}{h:Hp}{name:Str}{fr tt rd wr:Int}:T.sub Z h (JQ (GZ name fr tt rd wr)) (Vk name fr tt rd wr).aF:=by
 refine⟨aH _,aH _,aH _,aH _,aH _,aH _,nP,nP,nP,nP,aH _,aH _,nP,aH _,nP,nP,nP,aH _,trivial⟩
theorem Xz:T.sub (fun _=>True) no (YT tH) aac.aF:=by
 refine⟨aH _,aH _,aH _,nP,aH _,aH _,nP,aH _,nP,⟨.inr ⟨⟨KD,KD,KD,trivial⟩,fun t ht=>?_⟩,.inl rfl,fun h=>h⟩,trivial⟩
 obtain⟨x,_,rfl⟩:=List.mem_map.1 ht; rfl
theorem Vl{Z:Nat->Prop}{h:Hp}{k i ty:Nat}{l:List T}(hz:Z i)(hf:T.bY l=true)(hk:k≠fO)(q:h i=some ⟨ty,k,l⟩):T.sub Z h (.sl k false l) (.own i):=⟨rfl,hz,hf,hk,ty,q⟩
theorem S.KE:ak Tryz.prog 39 [] (.dat (.iU tH)):=by
 refine ak.weak (a:=aac) ?_ Xz rfl
 refine ak.of Bd.nH (by simp) rfl rfl ?_
 conv=>whnf
 refine⟨⟨aH _,aH _,uF,aH _,uF,aH _,aH _,uF,aH _,Vl trivial rfl (by decide) rfl,trivial⟩⟩
def afk:V:=.agg [.str CW.name,.int 1,FI,.Gv 3 false [.agg [.row 0 true (.ints [2]),.int 2]],FI,FI]
theorem S.Bg:ak Tryz.prog 40 [] (.dat (.prop CW)):=by
 refine ak.weak (a:=afk) ?_ ?_ rfl
 ·refine ak.of Bd.kD (by simp) rfl rfl ?_
  conv=>whnf
  exact⟨⟨aH _,aH _,aH _,Vl trivial rfl (by decide) rfl,aH _,aH _,trivial⟩⟩
 ·refine⟨aH _,aH _,nP,⟨.inr ⟨⟨⟨uF,aH _,trivial⟩,trivial⟩,fun t ht=>?_⟩,.inl rfl,fun h=>h⟩,nP,nP,trivial⟩
  obtain⟨x,_,rfl⟩:=List.mem_map.1 ht; rfl
def Ll:List Elem:=[⟨0,[0,0,2]⟩,⟨0,[0,1,1]⟩,⟨0,[1,0,1]⟩,⟨1,[0,0,2]⟩]
theorem KF:uH CW:=by
 refine⟨by decide,by decide,by decide,by decide,fun i=>?_⟩
 match i with
 |0=>exact(by decide:(1:Nat)<2^30)
 |i+1=>exact(by decide:(0:Nat)<2^30)
theorem XA:OL tH CW 9=(0,1,Ll,0,(OL tH CW 9).2.2.2.2):=by kernel_rfl
theorem XB:Xw tH CW Ll=true:=by kernel_rfl
theorem DW:DV Ll:=by
 intro x hx
 simp only[Ll,List.mem_cons,List.not_mem_nil,or_false] at hx
 rcases hx with rfl|rfl|rfl|rfl<;>exact(by decide:(3:Nat)<2^30)
theorem ah.weak{P:Program}{dr:Bool}{f:FuncId}{args args':List V}{res:V}{h:Hz}{n:Nat}{K:V->Hz->Prop}{KW:Nat->V->Hz->Prop}(S:ak P f args' res)(hs:T.dJ (fun _=>False) h.au (V.aW args') (V.aW args))(hr:res.free=true)(hK:K res h):ah P dr none f args h n K KW :=
 ⟨.inl (zX.use S hs ⟨res,h,rfl,rfl,fun _=>⟨rfl,V.nZ res hr⟩,hK⟩)⟩
theorem ah.on{P:Program}{f:FuncId}{args:List V}{h:Hz}{n:Nat}{K:V->Hz->Prop}{KW':Nat->V->Hz->Prop}(H:ah P false none f args h n K fun _ _ _=>False):ah P false (some true) f args h n K KW':=by
 rcases H.ok with H|⟨_,_,k,⟨_,_,_,_,_,_,hk⟩,_⟩|⟨_,e,_⟩
 ·exact⟨.inl (.inr ⟨rfl,fun _=>aT.mono H fun t hp ⟨v,h',a,b,_,c⟩=>⟨v,h',a,b,c⟩,fun e=>by cases e⟩)⟩
 ·exact hk.elim
 ·cases e
set_option maxHeartbeats 1000000 in
theorem S.Un:ak Tryz.prog 11 [] (.bool true):=by
 refine ak.of Bd.DX (by simp) rfl rfl ?_
 conv=>whnf
 refine ah.pure S.KE rfl ?_
 conv=>whnf
 refine ah.pure S.Bg rfl ?_
 conv=>whnf
 refine ah.pure (S.uD tH CW 9 H7 KF) rfl ?_
 rw[XA]
 generalize (OL tH CW 9).2.2.2.2=rd
 conv=>whnf
 repeat(refine VC.mk (by first|exact id|exact fun h=>⟨h,h⟩|(intro h; simp only[h,true_and]; done)) ?_; conv=>whnf)
 have hsame:ak Tryz.prog 24 [.row 3 false (.elems Ll),.row 3 true (.elems Ll)] (.bool true):=by
  have:=S.Ak Ll Ll false true (by decide) (by decide) DW.E DW.E
  rwa [decide_eq_true rfl] at this
 refine ah.on (ah.weak hsame ⟨aH _,⟨.inr ⟨⟨⟨aH _,uF,trivial⟩,⟨aH _,uF,trivial⟩,⟨aH _,uF,trivial⟩,⟨aH _,uF,trivial⟩,trivial⟩,fun t ht=>?_⟩,.inl rfl,fun h=>h⟩,trivial⟩ rfl ?_)
 ·obtain⟨x,_,rfl⟩:=List.mem_map.1 ht; rfl
 conv=>whnf
 repeat(refine VC.mk id ?_; conv=>whnf)
 refine ah.gJ (fun _=>S.KE) rfl ?_
 conv=>whnf
 refine ah.gJ (fun _=>S.Bg) rfl ?_
 conv=>whnf
 refine .mk (by intro h; simp_all; done) ?_
 conv=>whnf
 have afW:ak Tryz.prog 14 [.dat (.iU tH),.dat (.prop CW),.row 3 false (.elems Ll)] (.bool true):=by
  have:=S.lI tH CW Ll false H7 KF (by decide) DW
  rwa [XB] at this
 refine ah.gJ (fun _=>afW) rfl ?_
 conv=>whnf
 refine VC.mk id ?_
 conv=>whnf
 exact aj.bool rfl
end Go.Proofs.YtkmldgihhaooaaaGreatDoor
