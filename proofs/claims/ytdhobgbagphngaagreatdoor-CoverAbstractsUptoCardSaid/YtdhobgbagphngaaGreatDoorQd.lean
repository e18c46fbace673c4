/-
 The backward search: the program's answer. No condition.
-/
import Derived.KernelRfl
import Derived.Test.YtdhobgbagphngaaGreatDoorQc
namespace Go.Proofs.YtdhobgbagphngaaGreatDoor
open Go.Ab Go.Proofs
set_option maxRecDepth 100000
theorem S.Sm(a b:Elem)(ha:a.counts.length<2^40)(hb:b.counts.length<2^40):aj Tryz.prog 88 [.dat (.elem a),.dat (.elem b)] (.bool (decide (a=b))):=by
 refine aj.of Bd.sN (by simp) rfl rfl ?_;refine ah.pure (S.iJ a b ha hb) rfl ?_;refine ak.bool ?_;rw[Bool.eq_iff_iff]; simp only[decide_eq_true_eq,beq_iff_eq];exact kU.symm
theorem acQ{a b:List Elem}{i:Nat}(hi:i<a.length)(hb:i<b.length)(h:a.take i=b.take i)(he:a.getD i default=b.getD i default):a.take (i+1)=b.take (i+1):=by
 rw[List.take_succ_eq_append_getElem hi,List.take_succ_eq_append_getElem hb,h,<- getD_some (d:=default) hi,<- getD_some (d:=default) hb,he]
theorem S.NT(a b:List Elem)(f g:Bool)(ha:a.length<2^30)(hb:b.length<2^30)(sa:eH a)(sb:eH b):aj Tryz.prog 87 [.row 3 f (.elems a),.row 3 g (.elems b),.fn 88 []] (.bool (decide (a=b))):=by
 refine aj.of Bd.n87 (by simp) rfl rfl ?_;refine⟨fun h1=>?_,fun h1=>?_⟩
 ·replace h1:((a.length:Int) !=(b.length:Int))=true:=h1;refine ak.bool ?_;rw[decide_eq_false];rintro rfl;simp at h1
 have hl:a.length=b.length:=by
  replace h1:((a.length:Int) !=(b.length:Int))=false:=h1
  have:(a.length:Int)=b.length:=by simpa using h1
  omega
 refine aC.objs 0 [15,16,1,2] (fun i:Nat=>[(17,.int i)]) (fun _=>[]) (fun i=>i<=a.length/\a.take i=b.take i) (fun i=>a.length-i) 0 [] rfl (by decide) (fun _=>rfl) ⟨Nat.zero_le _,rfl⟩ (sR rfl) trivial ?_;refine⟨(sR rfl),rfl,?_⟩;rintro i ⟨hi,he⟩;refine⟨fun h2=>?_,fun h2=>?_⟩
 ·have hi':i<a.length:=by simpa using h2
  have hib:i<b.length:=by omega
  have ea:=sa (a.getD i default) (by rw[getD_some hi']; exact List.getElem_mem hi');have eb:=sb (b.getD i default) (by rw[getD_some hib]; exact List.getElem_mem hib);repeat(refine VC.mk (by simp only[Rw.rng]; omega) ?_)
  refine ah.pure (S.Sm (a.getD i default) (b.getD i default) ea eb) rfl ?_;refine⟨fun h3=>?_,fun h3=>?_⟩
  ·replace h3:(!decide (a.getD i default=b.getD i default))=true:=h3;have h3':a.getD i default≠b.getD i default:=by simpa using h3
   refine ak.bool ?_;rw[decide_eq_false];rintro rfl;exact h3' rfl
  ·replace h3:(!decide (a.getD i default=b.getD i default))=false:=h3;have h3':a.getD i default=b.getD i default:=by
    rw[Bool.not_eq_false'] at h3;exact of_decide_eq_true h3
   refine .mk (by simp only[okI] at *; omega) ?_;exact⟨i+1,[],⟨hi',acQ hi' hib he h3'⟩,by omega,(sR rfl),(sR rfl),trivial⟩
 ·have hi':i=a.length:=by have:=of_decide_eq_false h2; omega
  subst hi';rw[List.take_length,hl,List.take_length] at he;exact ak.bool (by rw[decide_eq_true he])
theorem S.U9(l:List Elem)(f:Bool)(hl:l.length<2^30):aQ Tryz.prog 84 (V.aT [.row 3 f (.elems l)]) (Hz.au []) 0 (fun t hp=>(l=[]/\t=T.nil/\hp=Hz.au [])\/(t= .own 0/\hp=Hz.au [(0,some (dF l))])):=by
 refine qH.of (nx:=0) (h0:=[]) Bd.fJ (by simp) ⟨_,_,.inr ⟨rfl,rfl⟩⟩ rfl rfl ?_;refine YJ.mk (fun hz=>?_) ?_
 ·have h0:l=[]:=List.eq_nil_of_length_eq_zero hz;refine Fork.mk (fun _=>?_) (fun q=>absurd (q.symm.trans ((rfl:true=true))) Bool.false_ne_true);exact⟨fun _=>False,id,T.nil,Hz.au [],.inl ⟨h0,rfl,rfl⟩,aI _,(fun i ob hi=>by cases hi),(fun i j hi=>by cases hi),trivial,(fun i ob hi=>by cases hi),fun i hi=>by cases hi⟩
 ·conv=>whnf
  refine Fork.mk (fun q=>absurd (q.symm.trans ((rfl:false=false))).symm Bool.false_ne_true) (fun _=>?_);refine .mk (by show(0+l.length)*32<=140737488355328/\0+l.length<=1152921504606846976; omega) ?_;exact jv.one (c:=0) (j:=5) (o:=dF l) (t:=.own 0) rfl rfl rfl nofun (.inr rfl) rfl (.eq rfl) (.inr ⟨rfl,rfl⟩)
theorem ah.U9{h:Hz}{n:Nat}{l:List Elem}{f:Bool}{K:V->Hz->Prop}{KW:Nat->V->Hz->Prop}(hn:h.get n=none)(hl:l.length<2^30)
  (h1:l=[]->K (.row 0 true .nil) ((n,none)::h)) (h2:K (.own n) ((n,some (dF l))::h)):ah Tryz.prog false none 84 [.row 3 f (.elems l)] h n K KW:=by
 refine ah.UN [] (S.U9 l f hl) rfl rfl rfl rfl rfl trivial hn (by simp) ?_;rintro t hp (⟨a,rfl,rfl⟩|⟨rfl,rfl⟩)
 ·exact⟨.row 0 true .nil,[none],rfl,rfl,⟨rfl,trivial⟩,h1 a⟩
 ·exact⟨.own n,[some (dF l)],rfl,rfl,⟨congrArg some (uP rfl _).symm,trivial⟩,h2⟩
theorem S.zZ(l:List Elem)(hl:l.length<2^29)(hg: ∀ e∈l,AO e):aQ Tryz.prog 86 (V.aT [.own 0]) (Hz.au [(0,some (dF l))]) 1 (fun t hp=>t=(V.row 3 false (.elems (bW l))).aG/\hp=Hz.au []):=by
 refine aQ.af0 (S.yO l 1 (by decide) hl hg) ?_;have hs: ∀ o:OV,Z9 (fun _=>True) (Hz.au [(1,some o)])=Hz.au []:=fun o=>by
  funext i;simp only[Z9,if_true];rfl
 rintro t hp (⟨rfl,rfl⟩|⟨m,rfl,rfl⟩)
 ·exact⟨fun _=>True,_,Qj trivial rfl,rfl,rfl,hs _⟩
 ·exact⟨fun _=>True,_,(ak.abg (m:=m) rfl).ok,rfl,rfl,hs _⟩
theorem ah.zZ{h:Hz}{i n:Nat}{l:List Elem}{K:V->Hz->Prop}{KW:Nat->V->Hz->Prop}(hi:h.get i=some (dF l))(hn:h.get n=none)(hin:i≠n)(hl:l.length<2^29)(hg: ∀ e∈l,AO e)
  (hK:K (.row 3 false (.elems (bW l))) ((i,none)::(n,none)::h)):ah Tryz.prog false none 86 [.own i] h n K KW:=by
 refine ah.UN [i] (S.zZ l hl hg) rfl rfl rfl rfl rfl ⟨⟨_,hi,uP rfl _⟩,trivial⟩ hn (by simp; exact hin) ?_;rintro t hp ⟨rfl,rfl⟩;exact⟨_,[none,none],rfl,Ri rfl _,⟨rfl,rfl,trivial⟩,hK⟩
def lV(p:aH)(b:List Elem)(i:Nat):List Elem:=b++(b.take i).flatMap fun x=>(xJ p x).2
def growE(p:aH)(b:List Elem):Option (List Elem):=bif b.any (fun x=>(xJ p x).1 !=0) then none else bif decide (100<(bW (lV p b b.length)).length) then none else some (bW (lV p b b.length))
def qU(p:aH):Nat->List Elem->Nat->Option (List Elem×Nat×Bool)
 |0,b,k=>match growE p b with
  |none=>none
  |some l=>some (b,k,decide (l=b))
 |f+1,b,k=>match growE p b with
  |none=>none
  |some l=>bif decide (l=b) then some (b,k,true) else qU p f l (k+1)
theorem Aa{p:aH}{f:Nat}{b:List Elem}{k:Nat}(h:growE p b=none):qU p f b k=none:=by
 cases f<;>simp only[qU,h]
theorem Ld{p:aH}{f:Nat}{b:List Elem}{k:Nat}(h:growE p b=some b):qU p f b k=some (b,k,true):=by
 cases f<;>simp only[qU,h,decide_true,cond_true]
theorem NU{p:aH}{b l:List Elem}{k:Nat}(h:growE p b=some l)(hn:l≠b):qU p 0 b k=some (b,k,false):=by
 simp only[qU,h,decide_eq_false hn]
theorem Le{p:aH}{f:Nat}{b l:List Elem}{k:Nat}(h:growE p b=some l)(hn:l≠b):qU p (f+1) b k=qU p f l (k+1):=by
 simp only[qU,h,decide_eq_false hn,cond_false]
theorem Sr{p:aH}{e:Elem}:(xJ p e).1=0\/(xJ p e).1=4:=by
 unfold xJ;cases p.rules.any (fun r=>(xR p r e).1 !=0)
 ·cases decide (100<(bW (nK p e p.rules.length)).length)
  ·exact .inl rfl
  ·exact .inr rfl
 ·exact .inr rfl
theorem Lh{p:aH}{e:Elem}:(xJ p e).2.length<=100:=by
 unfold xJ;cases p.rules.any (fun r=>(xR p r e).1 !=0)
 ·cases h:decide (100<(bW (nK p e p.rules.length)).length) with
  |false=>have:=of_decide_eq_false h; show(bW _).length<=100; omega
  |true=>exact Nat.zero_le _
 ·exact Nat.zero_le _
theorem aaI{p:aH}{e x:Elem}(hF:IC p e)(h:x∈(xJ p e).2):nX p x=false:=by
 unfold xJ at h;cases h1:p.rules.any (fun r=>(xR p r e).1 !=0) with
 |true=>rw[h1] at h; cases h
 |false =>
  rw[h1,cond_false] at h;cases h2:decide (100<(bW (nK p e p.rules.length)).length) with
  |true=>rw[h2] at h; cases h
  |false=>rw[h2,cond_false] at h; exact La hF (wP h)
theorem Lj{p:aH}{b:List Elem}{i:Nat}(hi:i<b.length):lV p b (i+1)=lV p b i++(xJ p (b.getD i default)).2:=by
 unfold lV;rw[List.take_succ_eq_append_getElem hi,List.flatMap_append,getD_some hi,List.append_assoc]; simp
theorem NV{p:aH}{b:List Elem}{i:Nat}:(lV p b i).length<=b.length+i*100:=by
 have: ∀ L:List Elem,(L.flatMap fun r=>(xJ p r).2).length<=L.length*100:=by
  intro L;induction L with
  |nil=>simp
  |cons c L ih=>rw[List.flatMap_cons,List.length_append,List.length_cons,Nat.succ_mul]; have:=@Lh p c; omega
 unfold lV;rw[List.length_append];have h1:=this (b.take i);have h2:(b.take i).length*100<=i*100:=Nat.mul_le_mul_right _ (by rw[List.length_take]; omega);omega
def IK(p:aH)(b:List Elem):Prop:= ∀ x∈b,IC p x
theorem HY{p:aH}{b:List Elem}{i:Nat}(hb:IK p b):IK p (lV p b i):=by
 intro x hx;rcases List.mem_append.1 hx with hx|hx
 ·exact hb x hx
 ·obtain⟨y,hy,hx⟩:=List.mem_flatMap.1 hx;have hF:=hb y (List.mem_of_mem_take hy);exact aaF hF (aaI hF hx)
theorem NW{p:aH}{x:Elem}(h:IC p x):AO x:=by
 have h1:=h.valid.states;have h2:=h.len;exact⟨by omega,fun y hy=>by have:=h.nums y hy; omega⟩
theorem Yg{p:aH}{b l:List Elem}(hb:IK p b)(h:growE p b=some l):IK p l/\l.length<=100:=by
 unfold growE at h;cases h1:b.any (fun x=>(xJ p x).1 !=0) with
 |true=>rw[h1] at h; cases h
 |false =>
  rw[h1,cond_false] at h;cases h2:decide (100<(bW (lV p b b.length)).length) with
  |true=>rw[h2] at h; cases h
  |false =>
   rw[h2,cond_false] at h;cases h;exact⟨fun x hx=>HY hb x (wP hx),by have:=of_decide_eq_false h2; omega⟩
def Sv(o:Option (List Elem×Nat×Bool)):V:=match o with
 |none=>.dn [.row 3 false (.elems []),.int 0,.bool false,.int 4]
 |some (b,k,d)=>.dn [.row 3 false (.elems b),.int k,.bool d,.int 0]
theorem NY(o:Option (List Elem×Nat×Bool)):(Sv o).free=true:=by
 match o with
 |none=>rfl
 |some (b,k,d)=>rfl
theorem ak.Sz{h:Hz}{a c:V}{b:Bool}:ak (.dn [.row 3 false (.elems []),a,.bool b,c]) (.dn [.row 0 true .nil,a,.bool b,c]) h:=⟨by
 show T.sub (fun _=>True) h.au (.dn [.sl 3 false [],a.aG,(V.bool b).aG,c.aG]) (.dn [.sl 0 true [],a.aG,(V.bool b).aG,c.aG]);simp only[T.sub,T.dK]
 exact⟨⟨.inl trivial,.inr trivial,fun h=>by cases h⟩,aI _,aI _,aI _,trivial⟩⟩
def IL(p:aH)(q:Prop')(rounds:Int):Option (List Elem×Nat×Bool):=bif decide (100<(kS p q).length) then none else qU p rounds.toNat (kS p q) 0
theorem V6{p:aH}{q:Prop'}(hc:fP p q=0):IK p (kS p q):=by
 obtain⟨_,_,b3,b4⟩:=Og hc;have hcov:KZ p=0:=by unfold KZ; rw[show(aX p !=0)=false by simp[b3],b4]; rfl
 intro x hx;refine Py hcov ?_;unfold kS at hx;rw[show(fP p q !=0)=false by simp[hc],cond_false] at hx;obtain⟨w,hw,h3⟩:=List.mem_flatMap.1 hx;obtain⟨u,_,rfl⟩:=List.mem_map.1 h3;have hw':=List.mem_range.1 hw;unfold nX;have hl:(oP p.states.length u).length=p.states.length:=jm;have hall:(oP p.states.length u).all Ag=true:=by
  rw[List.all_eq_true];intro y hy;have:=EO y hy;cases hk:Ag y with
  |true=>rfl
  |false =>
   have h:=Gg (x:=y);rw[hk] at h;simp only[Bool.not_false,Bool.or_eq_true,decide_eq_true_eq] at h;omega
 show(((((oP p.states.length u).length:Int) !=p.states.length)|| !((oP p.states.length u).all Ag))||decide ((w:Int)<0)||decide ((w:Int)>=max 1 (p.values.length:Int)))=false;rw[hl,hall,decide_eq_false (by omega: ¬ (w:Int)<0),decide_eq_false (by omega: ¬ (w:Int)>=max 1 (p.values.length:Int))];simp
set_option maxHeartbeats 2000000 in
theorem S.oJ(p:aH)(q:Prop')(rounds:Int)(hp:dG p)(hq:tJ q)(hc:fP p q=0)(hr:rounds<2^40):aj Tryz.prog 44 [.dat (.fK p),.dat (.prop q),.int rounds] (Sv (IL p q rounds)):=by
 have hbf:=V6 hc;obtain⟨l1,l2⟩:=Ic p q hp;obtain⟨_,b2,b3,_⟩:=Og hc;have hv:=DT b3;have v1:=hv.pos; have v2:=hv.states; have v3:=hv.values;have hbad:kS p q=bW (wG q p.states.length (max 1 p.values.length) (4 ^ p.states.length)):=by rw[kS,show(fP p q !=0)=false by simp[hc],bad_law]; rfl
 generalize hres:Sv (IL p q rounds)=res;refine aj.of Bd.oJ (by simp) rfl (by rw[<- hres]; exact NY _) ?_;refine ah.pure (S.iR p q p.states.length (max 1 p.values.length) hp hq rfl v1 v2 rfl (by omega) b2) rfl ?_;conv=>whnf
 rw[<- hbad];by_cases af7:100<(kS p q).length
 ·have hB:IL p q rounds=none:=by unfold IL; rw[decide_eq_true af7]; rfl
  refine aC.times 1 rfl ?_;refine Fork.mk (fun _=>?_) (fun q=>absurd (q.symm.trans (decide_eq_true (by omega))) Bool.false_ne_true);conv=>whnf
  rw[<- hres,hB];exact ak.Sz
 have hB:IL p q rounds=qU p rounds.toNat (kS p q) 0:=by unfold IL; rw[decide_eq_false af7]; rfl
 refine aC.objs 4 [2,3,4] (fun x:Nat×List Elem=>[(11,.int x.1),(10,.row 3 false (.elems x.2))]) (fun _=>[(0,IJ p),(1,Pz q)]) (fun x=>x.2.length<=100/\IK p x.2/\Sv (qU p (rounds-(x.1:Int)).toNat x.2 x.1)=res) (fun x=>(rounds-(x.1:Int)).toNat) (0,kS p q) [0,1] rfl (by decide) (fun _=>rfl) ⟨by show(kS p q).length<=100; omega,hbf,by rw[<- hres,hB]; show Sv (qU p (rounds-((0:Nat):Int)).toNat _ _)=_; rw[show rounds-((0:Nat):Int)=rounds by omega]⟩ (sR rfl) ⟨iQ rfl rfl,iQ rfl rfl,trivial⟩ ?_;refine⟨(sR rfl),rfl,?_⟩;rintro⟨k,b⟩ ⟨aaJ,hfit,hR⟩;replace aaJ:b.length<=100:=aaJ;replace hfit:IK p b:=hfit;replace hR:Sv (qU p (rounds-(k:Int)).toNat b k)=res:=hR;refine Fork.mk (fun q=>absurd (q.symm.trans (decide_eq_false (show ¬ 100<(b.length:Int) by omega))).symm Bool.false_ne_true) (fun _=>?_);refine ah.U9 rfl (show b.length<2^30 by omega) (fun h0=>?_) ?_
 ·replace h0:b=[]:=h0;refine aC.nil 12 31 3 (by rfl) rfl rfl rfl ?_;refine aC.objs 4 [27,28,10,11,2,3,4] (fun i:Nat=>[(29,.int i),(12,.own 2)]) (fun i=>[(0,IJ p),(1,Pz q),(2,dF (lV p b i))]) (fun i=>i<=b.length/\(b.take i).any (fun x=>(xJ p x).1 !=0)=false) (fun i=>b.length-i) 0 [0,1,13] rfl (by decide) (fun _=>rfl) ⟨Nat.zero_le _,rfl⟩ (sR rfl) ⟨iQ rfl rfl,iQ rfl rfl,⟨rfl,nofun,rfl,rfl,rfl,_,rfl,rfl,rfl,dQ.of_eq (by rw[h0]; rfl)⟩,trivial⟩ ?_;refine⟨(sR rfl),rfl,?_⟩;rintro i ⟨hi,hno⟩;have hgl:=NV (p:=p) (b:=b) (i:=i);refine⟨fun h2=>?_,fun h2=>?_⟩
  ·have hi':i<b.length:=by simpa using h2
   have hmem:b.getD i default∈b:=by rw[getD_some hi']; exact List.getElem_mem hi'
   have hFx:=hfit _ hmem;have hst:=Lj (p:=p) hi';have hpl:=@Lh p (b.getD i default);have hpe:=@Sr p (b.getD i default);refine .mk (by simp only[Rw.rng] at *; omega) ?_;refine ah.pure (S.wC p (b.getD i default) hp hFx) rfl ?_;generalize hQ:xJ p (b.getD i default)=Q at hst hpl hpe;refine⟨fun h3=>?_,fun h3=>?_⟩
   ·replace h3:(Q.1 !=0)=true:=h3;have h4:Q.1=4:=by
     rcases hpe with h|h
     ·rw[h] at h3; cases h3
     ·exact h
    have hnone:growE p b=none:=by
     unfold growE;rw[List.any_eq_true.2 ⟨_,hmem,by rw[hQ]; exact h3⟩]; rfl
    conv=>whnf
    rw[<- hR,Aa hnone,h4];exact ak.Sz
   ·replace h3:(Q.1 !=0)=false:=h3;repeat(refine VC.mk (by first|(show((lV p b i).length+Q.2.length)*32<=140737488355328/\(lV p b i).length+Q.2.length<=1152921504606846976; omega)|(simp only[okI] at *; omega)) ?_)
    refine⟨i+1,[0,1,21],⟨hi',?_⟩,by omega,(sR rfl),(sR rfl),iQ rfl rfl,iQ rfl rfl,⟨rfl,nofun,rfl,rfl,rfl,_,rfl,rfl,rfl,dQ.of_eq (by rw[hst])⟩,trivial⟩;rw[List.take_succ_eq_append_getElem hi',List.any_append,hno,Bool.false_or,<- getD_some (d:=default) hi'];show((xJ p (b.getD i default)).1 !=0||false)=false;rw[hQ,h3]; rfl
  have hi':i=b.length:=by replace h2:decide ((i:Int)<(b.length:Int))=false:=h2; have:=of_decide_eq_false h2; omega
  subst hi';rw[List.take_length] at hno;have hgr:growE p b=bif decide (100<(bW (lV p b b.length)).length) then none else some (bW (lV p b b.length)):=by unfold growE; rw[hno]; rfl
  have hgf:=HY (i:=b.length) hfit;refine ah.zZ rfl rfl (by decide) (by omega) (fun x hx=>NW (hgf x hx)) ?_;have hml:=D6 (lV p b b.length);have hnf:IK p (bW (lV p b b.length)):=fun x hx=>hgf x (wP hx)
  generalize hM:bW (lV p b b.length)=M at hgr hml hnf;refine⟨fun h3=>?_,fun h3=>?_⟩
  ·replace h3:decide (100<(M.length:Int))=true:=h3;have:=of_decide_eq_true h3;rw[decide_eq_true (by omega:100<M.length),cond_true] at hgr;conv=>whnf
   rw[<- hR,Aa hgr];exact ak.Sz
  replace h3:decide (100<(M.length:Int))=false:=h3;have af8:=of_decide_eq_false h3;rw[decide_eq_false (by omega: ¬ 100<M.length),cond_false] at hgr;refine ah.pure (S.NT M b false false (by omega) (by omega) (fun x hx=>by have:=(hnf x hx).len; have:=(hnf x hx).valid.states; omega) (fun x hx=>by have:=(hfit x hx).len; have:=(hfit x hx).valid.states; omega)) rfl ?_;refine⟨fun h4=>?_,fun h4=>?_⟩
  ·have WL:M=b:=of_decide_eq_true h4;rw[WL] at hgr;conv=>whnf
   rw[<- hR,Ld hgr];exact ak.eqv rfl
  have WL:M≠b:=of_decide_eq_false h4;refine⟨fun h5=>?_,fun h5=>?_⟩
  ·have hkr:(rounds-(k:Int)).toNat=0:=by have:=of_decide_eq_true h5; omega
   conv=>whnf
   rw[<- hR,hkr,NU hgr WL];exact ak.eqv rfl
  ·have hkr:(rounds-(k:Int)).toNat=(rounds-((k+1:Nat):Int)).toNat+1:=by have:=of_decide_eq_false h5; omega
   refine .mk (by simp only[okI] at *; omega) ?_;refine⟨(k+1,M),[0,1],⟨by show M.length<=100; omega,hnf,?_⟩,?_,(sR rfl),(sR rfl),iQ rfl rfl,iQ rfl rfl,trivial⟩
   ·show Sv (qU p (rounds-((k+1:Nat):Int)).toNat M (k+1))=res;rw[<- hR,hkr,Le hgr WL]
   ·show(rounds-((k+1:Nat):Int)).toNat<(rounds-(k:Int)).toNat;omega
 ·conv=>whnf
  refine aC.objs 4 [27,28,10,11,2,3,4] (fun i:Nat=>[(29,.int i),(12,.own 2)]) (fun i=>[(0,IJ p),(1,Pz q),(2,dF (lV p b i))]) (fun i=>i<=b.length/\(b.take i).any (fun x=>(xJ p x).1 !=0)=false) (fun i=>b.length-i) 0 [0,1,8] rfl (by decide) (fun _=>rfl) ⟨Nat.zero_le _,rfl⟩ (sR rfl) ⟨iQ rfl rfl,iQ rfl rfl,⟨rfl,nofun,rfl,rfl,rfl,_,rfl,rfl,rfl,dQ.of_eq (by unfold lV; simp)⟩,trivial⟩ ?_;refine⟨(sR rfl),rfl,?_⟩;rintro i ⟨hi,hno⟩;have hgl:=NV (p:=p) (b:=b) (i:=i);refine⟨fun h2=>?_,fun h2=>?_⟩
  ·have hi':i<b.length:=by simpa using h2
   have hmem:b.getD i default∈b:=by rw[getD_some hi']; exact List.getElem_mem hi'
   have hFx:=hfit _ hmem;have hst:=Lj (p:=p) hi';have hpl:=@Lh p (b.getD i default);have hpe:=@Sr p (b.getD i default);refine .mk (by simp only[Rw.rng] at *; omega) ?_;refine ah.pure (S.wC p (b.getD i default) hp hFx) rfl ?_;generalize hQ:xJ p (b.getD i default)=Q at hst hpl hpe;refine⟨fun h3=>?_,fun h3=>?_⟩
   ·replace h3:(Q.1 !=0)=true:=h3;have h4:Q.1=4:=by
     rcases hpe with h|h
     ·rw[h] at h3; cases h3
     ·exact h
    have hnone:growE p b=none:=by
     unfold growE;rw[List.any_eq_true.2 ⟨_,hmem,by rw[hQ]; exact h3⟩]; rfl
    conv=>whnf
    rw[<- hR,Aa hnone,h4];exact ak.Sz
   ·replace h3:(Q.1 !=0)=false:=h3;repeat(refine VC.mk (by first|(show((lV p b i).length+Q.2.length)*32<=140737488355328/\(lV p b i).length+Q.2.length<=1152921504606846976; omega)|(simp only[okI] at *; omega)) ?_)
    refine⟨i+1,[0,1,21],⟨hi',?_⟩,by omega,(sR rfl),(sR rfl),iQ rfl rfl,iQ rfl rfl,⟨rfl,nofun,rfl,rfl,rfl,_,rfl,rfl,rfl,dQ.of_eq (by rw[hst])⟩,trivial⟩;rw[List.take_succ_eq_append_getElem hi',List.any_append,hno,Bool.false_or,<- getD_some (d:=default) hi'];show((xJ p (b.getD i default)).1 !=0||false)=false;rw[hQ,h3]; rfl
  have hi':i=b.length:=by replace h2:decide ((i:Int)<(b.length:Int))=false:=h2; have:=of_decide_eq_false h2; omega
  subst hi';rw[List.take_length] at hno;have hgr:growE p b=bif decide (100<(bW (lV p b b.length)).length) then none else some (bW (lV p b b.length)):=by unfold growE; rw[hno]; rfl
  have hgf:=HY (i:=b.length) hfit;refine ah.zZ rfl rfl (by decide) (by omega) (fun x hx=>NW (hgf x hx)) ?_;have hml:=D6 (lV p b b.length);have hnf:IK p (bW (lV p b b.length)):=fun x hx=>hgf x (wP hx)
  generalize hM:bW (lV p b b.length)=M at hgr hml hnf;refine⟨fun h3=>?_,fun h3=>?_⟩
  ·replace h3:decide (100<(M.length:Int))=true:=h3;have:=of_decide_eq_true h3;rw[decide_eq_true (by omega:100<M.length),cond_true] at hgr;conv=>whnf
   rw[<- hR,Aa hgr];exact ak.Sz
  replace h3:decide (100<(M.length:Int))=false:=h3;have af8:=of_decide_eq_false h3;rw[decide_eq_false (by omega: ¬ 100<M.length),cond_false] at hgr;refine ah.pure (S.NT M b false false (by omega) (by omega) (fun x hx=>by have:=(hnf x hx).len; have:=(hnf x hx).valid.states; omega) (fun x hx=>by have:=(hfit x hx).len; have:=(hfit x hx).valid.states; omega)) rfl ?_;refine⟨fun h4=>?_,fun h4=>?_⟩
  ·have WL:M=b:=of_decide_eq_true h4;rw[WL] at hgr;conv=>whnf
   rw[<- hR,Ld hgr];exact ak.eqv rfl
  have WL:M≠b:=of_decide_eq_false h4;refine⟨fun h5=>?_,fun h5=>?_⟩
  ·have hkr:(rounds-(k:Int)).toNat=0:=by have:=of_decide_eq_true h5; omega
   conv=>whnf
   rw[<- hR,hkr,NU hgr WL];exact ak.eqv rfl
  ·have hkr:(rounds-(k:Int)).toNat=(rounds-((k+1:Nat):Int)).toNat+1:=by have:=of_decide_eq_false h5; omega
   refine .mk (by simp only[okI] at *; omega) ?_;refine⟨(k+1,M),[0,1],⟨by show M.length<=100; omega,hnf,?_⟩,?_,(sR rfl),(sR rfl),iQ rfl rfl,iQ rfl rfl,trivial⟩
   ·show Sv (qU p (rounds-((k+1:Nat):Int)).toNat M (k+1))=res;rw[<- hR,hkr,Le hgr WL]
   ·show(rounds-((k+1:Nat):Int)).toNat<(rounds-(k:Int)).toNat;omega
def bkX(p:aH)(q:Prop')(rounds:Int):Int×List Elem×Bool:=bif fP p q !=0 then(fP p q,[],false) else bif decide (100<rounds) then(1,[],false) else match IL p q rounds with
 |none=>(4,[],false)
 |some (b,_,d)=>(0,b,d)
def acR(p:aH)(q:Prop')(s:Int×Int)(x:Elem):Int×Int:=bif EN p q x&&(s.1==1||decide (bD x<s.2)) then(2,bD x) else s
def IQ(p:aH)(q:Prop')(b:List Elem)(i:Nat):Int×Int:=(b.take i).foldl (acR p q) (1,0)
theorem Yh{p:aH}{q:Prop'}{b:List Elem}{i:Nat}(hi:i<b.length):IQ p q b (i+1)=acR p q (IQ p q b i) (b.getD i default):=by
 unfold IQ;rw[List.take_succ_eq_append_getElem hi,List.foldl_append,getD_some hi]; rfl
def PD(p:aH)(q:Prop')(rounds:Int):Int×Int×List Elem×Int×Int:=bif fP p q !=0 then(fP p q,0,[],0,0) else bif decide (100<rounds) then(1,0,[],0,0) else match IL p q rounds with
 |none=>(4,0,[],0,0)
 |some (b,k,d)=>bif d then(0,(IQ p q b b.length).1,b,(IQ p q b b.length).2,k) else(0,0,[],0,k)
def af9(x:Int×Int×List Elem×Int×Int):V:=.dn [.agg [.int x.2.1,.row 3 false (.elems x.2.2.1),.int x.2.2.2.1,.int x.2.2.2.2],.int x.1]
theorem ak.acS{h:Hz}{a c d e:V}:ak (.dn [.agg [a,.row 3 false (.elems []),c,d],e]) (.dn [.agg [a,.row 0 true .nil,c,d],e]) h:=⟨by
 show T.sub (fun _=>True) h.au (.dn [.agg [a.aG,.sl 3 false [],c.aG,d.aG],e.aG]) (.dn [.agg [a.aG,.sl 0 true [],c.aG,d.aG],e.aG]);simp only[T.sub,T.dK]
 exact⟨⟨aI _,⟨.inl trivial,.inr trivial,fun h=>by cases h⟩,aI _,aI _,trivial⟩,aI _,trivial⟩⟩
abbrev boxS(a:Int)(b:List Elem)(c d:Int):OV:=.box 62 5 (.agg [.int a,.row 3 false (.elems b),.int c,.int d])
theorem aaK{p:aH}{q:Prop'}{rounds:Int}{b:List Elem}{k:Nat}{d:Bool}(hc:fP p q=0)(h:IL p q rounds=some (b,k,d)):IK p b/\b.length<=100:=by
 unfold IL at h;cases h1:decide (100<(kS p q).length) with
 |true=>rw[h1] at h; cases h
 |false =>
  rw[h1,cond_false] at h
  have: ∀ f b0 k0,IK p b0->b0.length<=100->qU p f b0 k0=some (b,k,d)->IK p b/\b.length<=100:=by
   intro f;induction f with
   |zero =>
    intro b0 k0 h1 h2 h3;simp only[qU] at h3;split at h3
    ·cases h3
    ·cases h3; exact⟨h1,h2⟩
   |succ f ih =>
    intro b0 k0 h1 h2 h3;simp only[qU] at h3;split at h3
    ·cases h3
    ·rename_i l hl;obtain⟨g1,g2⟩:=Yg h1 hl;cases he:decide (l=b0) with
     |true=>rw[he] at h3; cases h3; exact⟨h1,h2⟩
     |false=>rw[he] at h3; exact ih l _ g1 g2 h3
  exact this _ _ _ (V6 hc) (by have:=of_decide_eq_false h1; omega) h
set_option maxHeartbeats 1000000 in
theorem S.uS(p:aH)(q:Prop')(rounds:Int)(hp:dG p)(hq:tJ q):aj Tryz.prog 20 [.dat (.fK p),.dat (.prop q),.int rounds] (af9 (PD p q rounds)):=by
 generalize hres:af9 (PD p q rounds)=res;refine aj.of Bd.uS (by simp) rfl (by rw[<- hres]; rfl) ?_;refine ah.pure (S.nY p q hp hq) rfl ?_;refine⟨fun h1=>?_,fun h1=>?_⟩
 ·replace h1:(fP p q !=0)=true:=h1;conv=>whnf
  rw[<- hres,PD,h1];exact ak.acS
 replace h1:(fP p q !=0)=false:=h1;refine⟨fun h2=>?_,fun h2=>?_⟩
 ·replace h2:decide (100<rounds)=true:=h2;conv=>whnf
  rw[<- hres,PD,h1,h2];exact ak.acS
 replace h2:decide (100<rounds)=false:=h2;have hr:=of_decide_eq_false h2;have hX:PD p q rounds=match IL p q rounds with
  |none=>(4,0,[],0,0)
  |some (b,k,d)=>bif d then(0,(IQ p q b b.length).1,b,(IQ p q b b.length).2,k) else(0,0,[],0,k):=by rw[PD,h1,h2]; rfl
 refine ah.pure (S.oJ p q rounds hp hq (AA h1) (by omega)) (NY _) ?_;match hs:IL p q rounds with
 |none =>
  rw[hs] at hX;refine Fork.mk (fun _=>?_) (fun q=>absurd (q.symm.trans (rfl)) Bool.false_ne_true);conv=>whnf
  rw[<- hres,hX];exact ak.acS
 |some (b,k,false) =>
  rw[hs] at hX;refine Fork.mk (fun q=>absurd (q.symm.trans (rfl)).symm Bool.false_ne_true) (fun _=>?_);refine Fork.mk (fun _=>?_) (fun q=>absurd (q.symm.trans (rfl)) Bool.false_ne_true);conv=>whnf
  rw[<- hres,hX];exact ak.acS
 |some (b,k,true) =>
  rw[hs] at hX;obtain⟨hfit,aaJ⟩:=aaK (AA h1) hs;refine Fork.mk (fun q=>absurd (q.symm.trans (rfl)).symm Bool.false_ne_true) (fun _=>?_);refine Fork.mk (fun q=>absurd (q.symm.trans (rfl)).symm Bool.false_ne_true) (fun _=>?_);refine aC.objs 4 [47,48,3,4,6] (fun i:Nat=>[(49,.int i),(13,.ptr 3 0 0)]) (fun i=>[(0,IJ p),(1,Pz q),(2,.box 62 5 (.agg [.int 0,.row 0 true .nil,.int 0,.int 0])),(3,boxS (IQ p q b i).1 b (IQ p q b i).2 k)]) (fun i=>i<=b.length) (fun i=>b.length-i) 0 [0,1,2,32] rfl (by decide) (fun _=>rfl) (Nat.zero_le _) (sR rfl) ⟨iQ rfl rfl,iQ rfl rfl,iQ rfl rfl,iQ rfl rfl,trivial⟩ ?_;refine⟨(sR rfl),rfl,?_⟩;rintro i hi;refine⟨fun h3=>?_,fun h3=>?_⟩
  ·have hi':i<b.length:=by simpa using h3
   have hst:=Yh (p:=p) (q:=q) hi';have hF:=hfit (b.getD i default) (by rw[getD_some hi']; exact List.getElem_mem hi');have hle:(b.getD i default).counts.length<2^30:=by have:=hF.len; have:=hF.valid.states; omega
   refine .mk (by simp only[Rw.rng] at *; omega) ?_;refine ah.pure (S.lS (b.getD i default) (by omega)) rfl ?_;refine ah.pure (S.ny p q (b.getD i default) hp hq hle (DW (AA h1))) rfl ?_;generalize hS:IQ p q b i=s at hst;repeat(refine VC.mk (by first|exact id|exact fun h=>⟨h,h⟩|(intro h; simp_all; done)) ?_)
   refine⟨fun h4=>?_,fun h4=>?_⟩
   ·replace h4:(EN p q (b.getD i default)&&(s.1==1||decide (bD (b.getD i default)<s.2)))=true:=h4;have hst':IQ p q b (i+1)=(2,bD (b.getD i default)):=by rw[hst,acR,h4]; rfl
    refine .mk (by simp only[okI] at *; omega) ?_;exact⟨i+1,[0,1,2,3],hi',by omega,(sR rfl),(sR rfl),iQ rfl rfl,iQ rfl rfl,iQ rfl rfl,⟨rfl,nofun,rfl,rfl,rfl,_,rfl,rfl,rfl,dQ.of_eq (by rw[hst']; rfl)⟩,trivial⟩
   ·replace h4:(EN p q (b.getD i default)&&(s.1==1||decide (bD (b.getD i default)<s.2)))=false:=h4;have hst':IQ p q b (i+1)=s:=by rw[hst,acR,h4]; rfl
    refine .mk (by simp only[okI] at *; omega) ?_;exact⟨i+1,[0,1,2,3],hi',by omega,(sR rfl),(sR rfl),iQ rfl rfl,iQ rfl rfl,iQ rfl rfl,⟨rfl,nofun,rfl,rfl,rfl,_,rfl,rfl,rfl,dQ.of_eq (by rw[hst'])⟩,trivial⟩
  ·have hi':i=b.length:=by have:=of_decide_eq_false h3; omega
   subst hi';conv=>whnf
   rw[<- hres,hX];exact ak.eqv rfl
def H6(name:Str)(fr tt read write:Int):Rule:=⟨name,1,fr,tt,0,0,[],[],[],[],read,write,[],0,[],[],[],0⟩
def uw:aH:=⟨[109,120],1,[[105],[119],[99]],[],[[102,114,101,101],[104,101,108,100]],0,[],[0],[],[H6 [97,115,107] 0 1 (-1) (-1),H6 [116,97,107,101] 1 2 0 1,H6 [108,101,97,118,101] 2 0 1 0]⟩
def DL:Prop':=⟨[101,120],1,[],[⟨[2],2⟩],[],[]⟩
theorem Ac{name:Str}{fr tt read write:Int}(_h:name.length<2^30):uV (H6 name fr tt read write):=by
 constructor<;>simp[H6]
theorem Iy:dG uw:=by
 refine⟨by decide,by decide,by decide,by decide,by decide,by decide,by decide,fun i=>?_,by decide⟩;match i with
 |0=>exact Ac (by decide)
 |1=>exact Ac (by decide)
 |2=>exact Ac (by decide)
 |i+3=>constructor<;>exact(by decide:(0:Nat)<2^30)
def Gh:V:=.row 0 true .nil
def V7(name:Str)(fr tt rd wr:Int):V:=.agg [.str name,.int 1,.int fr,.int tt,.int 0,.int 0,Gh,Gh,Gh,Gh,.int rd,.int wr,Gh,.int 0,Gh,Gh,Gh,.int 0]
def aaL:V:=.agg [.str uw.name,.int 1,.row 0 false (.strs uw.states),Gh,.row 0 false (.strs uw.values),.int 0,Gh,.row 0 false (.ints [0]),Gh,.G9 19 false [V7 [97,115,107] 0 1 (-1) (-1),V7 [116,97,107,101] 1 2 0 1,V7 [108,101,97,118,101] 2 0 1 0]]
theorem uT{Z:Nat->Prop}{h:Hp}{k:Nat}{l:List T}:T.sub Z h (.sl k false l) (.sl k true l):=⟨.inl rfl,.inl rfl,fun h=>by cases h⟩
theorem nU{Z:Nat->Prop}{h:Hp}{k:Nat}:T.sub Z h (.sl k false []) T.nil:=⟨.inl rfl,.inr rfl,fun h=>by cases h⟩
theorem aj.weak{P:Program}{f:FuncId}{args:List V}{a b:V}(S:aj P f args a)(hs:T.sub (fun _=>True) no b.aG a.aG)(hb:b.free=true):aj P f args b :=
 AX.shut S (fun _=>hs) (V.og b hb)
theorem Ll{Z:Nat->Prop}{h:Hp}{name:Str}{fr tt rd wr:Int}:T.sub Z h (Kw (H6 name fr tt rd wr)) (V7 name fr tt rd wr).aG:=by
 refine⟨aI _,aI _,aI _,aI _,aI _,aI _,nU,nU,nU,nU,aI _,aI _,nU,aI _,nU,nU,nU,aI _,trivial⟩
theorem Yi:T.sub (fun _=>True) no (ZA uw) aaL.aG:=by
 refine⟨aI _,aI _,aI _,nU,aI _,aI _,nU,aI _,nU,⟨.inr ⟨⟨Ll,Ll,Ll,trivial⟩,fun t ht=>?_⟩,.inl rfl,fun h=>h⟩,trivial⟩;obtain⟨x,_,rfl⟩:=List.mem_map.1 ht; rfl
theorem V8{Z:Nat->Prop}{h:Hp}{k i ty:Nat}{l:List T}(hz:Z i)(hf:T.bZ l=true)(hk:k≠fM)(q:h i=some ⟨ty,k,l⟩):T.sub Z h (.sl k false l) (.own i):=⟨rfl,hz,hf,hk,ty,q⟩
theorem S.Lm:aj Tryz.prog 21 [] (.dat (.fK uw)):=by
 refine aj.weak (a:=aaL) ?_ Yi rfl;refine aj.of Bd.nM (by simp) rfl rfl ?_;refine⟨⟨aI _,aI _,uT,aI _,uT,aI _,aI _,uT,aI _,V8 trivial rfl (by decide) rfl,trivial⟩⟩
def aga:V:=.agg [.str DL.name,.int 1,Gh,.G9 3 false [.agg [.row 0 true (.ints [2]),.int 2]],Gh,Gh]
theorem S.BU:aj Tryz.prog 22 [] (.dat (.prop DL)):=by
 refine aj.weak (a:=aga) ?_ ?_ rfl
 ·refine aj.of Bd.kE (by simp) rfl rfl ?_;exact⟨⟨aI _,aI _,aI _,V8 trivial rfl (by decide) rfl,aI _,aI _,trivial⟩⟩
 ·refine⟨aI _,aI _,nU,⟨.inr ⟨⟨⟨uT,aI _,trivial⟩,trivial⟩,fun t ht=>?_⟩,.inl rfl,fun h=>h⟩,nU,nU,trivial⟩;obtain⟨x,_,rfl⟩:=List.mem_map.1 ht; rfl
def MB:List Elem:=[⟨0,[0,0,2]⟩,⟨0,[0,1,1]⟩,⟨0,[1,0,1]⟩,⟨1,[0,0,2]⟩]
theorem Lp:tJ DL:=by
 refine⟨by decide,by decide,by decide,by decide,fun i=>?_⟩;match i with
 |0=>exact(by decide:(1:Nat)<2^30)
 |i+1=>exact(by decide:(0:Nat)<2^30)
theorem Yj:PD uw DL 9=(0,1,MB,0,(PD uw DL 9).2.2.2.2):=by kernel_rfl
theorem Yk:Yf uw DL MB=true:=by kernel_rfl
theorem Et:Es MB:=by
 intro x hx;simp only[MB,List.mem_cons,List.not_mem_nil,or_false] at hx;rcases hx with rfl|rfl|rfl|rfl<;>exact(by decide:(3:Nat)<2^30)
theorem ah.weak{P:Program}{dr:Bool}{f:FuncId}{args args':List V}{res:V}{h:Hz}{n:Nat}{K:V->Hz->Prop}{KW:Nat->V->Hz->Prop}(S:aj P f args' res)(hs:T.dK (fun _=>False) h.au (V.aT args') (V.aT args))(hr:res.free=true)(hK:K res h):ah P dr none f args h n K KW :=
 ⟨.inl (AX.use S hs ⟨res,h,rfl,rfl,fun _=>⟨rfl,V.og res hr⟩,hK⟩)⟩
theorem ah.on{P:Program}{f:FuncId}{args:List V}{h:Hz}{n:Nat}{K:V->Hz->Prop}{KW':Nat->V->Hz->Prop}(H:ah P false none f args h n K fun _ _ _=>False):ah P false (some true) f args h n K KW':=by
 rcases H.ok with H|⟨_,_,k,⟨_,_,_,_,_,_,hk⟩,_⟩|⟨_,e,_⟩
 ·exact⟨.inl (.inr ⟨rfl,fun _=>aQ.mono H fun t hp ⟨v,h',a,b,_,c⟩=>⟨v,h',a,b,c⟩,fun e=>by cases e⟩)⟩
 ·exact hk.elim
 ·cases e
set_option maxHeartbeats 1000000 in
theorem S.V9:aj Tryz.prog 6 [] (.bool true):=by
 refine aj.of Bd.Eu (by simp) rfl rfl ?_;refine ah.pure S.Lm rfl ?_;refine ah.pure S.BU rfl ?_;refine ah.pure (S.uS uw DL 9 Iy Lp) rfl ?_;rw[Yj];generalize (PD uw DL 9).2.2.2.2=rd;repeat(refine VC.mk (by first|exact id|exact fun h=>⟨h,h⟩|(intro h; simp only[h,true_and]; done)) ?_)
 have hsame:aj Tryz.prog 19 [.row 3 false (.elems MB),.row 3 true (.elems MB)] (.bool true):=by
  have:=S.AV MB MB false true (by decide) (by decide) Et.E Et.E;rwa [decide_eq_true rfl] at this
 refine ah.on (ah.weak hsame ⟨aI _,⟨.inr ⟨⟨⟨aI _,uT,trivial⟩,⟨aI _,uT,trivial⟩,⟨aI _,uT,trivial⟩,⟨aI _,uT,trivial⟩,trivial⟩,fun t ht=>?_⟩,.inl rfl,fun h=>h⟩,trivial⟩ rfl ?_)
 ·obtain⟨x,_,rfl⟩:=List.mem_map.1 ht; rfl
 repeat(refine VC.mk id ?_)
 refine ah.eG (fun _=>S.Lm) rfl ?_;refine ah.eG (fun _=>S.BU) rfl ?_;refine .mk (by intro h; simp_all; done) ?_;conv=>whnf
 have ag0:aj Tryz.prog 23 [.dat (.fK uw),.dat (.prop DL),.row 3 false (.elems MB)] (.bool true):=by
  have:=S.lH uw DL MB false Iy Lp (by decide) Et;rwa [Yk] at this
 refine ah.eG (fun _=>ag0) rfl ?_;refine VC.mk id ?_;exact ak.bool rfl
end Go.Proofs.YtdhobgbagphngaaGreatDoor
