/-
 The backward search: the program's answer. No condition.
-/
import Derived.KernelRfl
import Derived.Test.YtkmldgihhaooaaaGreatDoorQc
namespace Go.Proofs.YtkmldgihhaooaaaGreatDoor
open Go.Ab Go.Proofs
set_option maxRecDepth 100000
theorem S.Uf(a b:Elem)(ha:a.counts.length<2^40)(hb:b.counts.length<2^40):ak Tryz.prog 94 [.dat (.elem a),.dat (.elem b)] (.bool (decide (a=b))):=by
 refine ak.of Bd.tK (by simp) rfl rfl ?_;refine ah.pure (S.jd a b ha hb) rfl ?_;refine aj.bool ?_;rw[Bool.eq_iff_iff]; simp only[decide_eq_true_eq,beq_iff_eq];exact jK.symm
theorem aev{a b:List Elem}{i:Nat}(hi:i<a.length)(hb:i<b.length)(h:a.take i=b.take i)(he:a.getD i default=b.getD i default):a.take (i+1)=b.take (i+1):=by
 rw[List.take_succ_eq_append_getElem hi,List.take_succ_eq_append_getElem hb,h,<- getD_some (d:=default) hi,<- getD_some (d:=default) hb,he]
theorem S.O9(a b:List Elem)(f g:Bool)(ha:a.length<2^30)(hb:b.length<2^30)(sa:dK a)(sb:dK b):ak Tryz.prog 93 [.row 3 f (.elems a),.row 3 g (.elems b),.fn 94 []] (.bool (decide (a=b))):=by
 refine ak.of Bd.n93 (by simp) rfl rfl ?_;refine⟨fun h1=>?_,fun h1=>?_⟩
 ·replace h1:((a.length:Int) !=(b.length:Int))=true:=h1;refine aj.bool ?_;rw[decide_eq_false];rintro rfl;simp at h1
 have hl:a.length=b.length:=by
  replace h1:((a.length:Int) !=(b.length:Int))=false:=h1
  have:(a.length:Int)=b.length:=by simpa using h1
  omega
 refine aA.objs 0 [15,16,1,2] (fun i:Nat=>[(17,.int i)]) (fun _=>[]) (fun i=>i<=a.length/\a.take i=b.take i) (fun i=>a.length-i) 0 [] rfl (by decide) (fun _=>rfl) ⟨Nat.zero_le _,rfl⟩ (sR rfl) trivial ?_;refine⟨(sR rfl),rfl,?_⟩;rintro i ⟨hi,he⟩;refine⟨fun h2=>?_,fun h2=>?_⟩
 ·have hi':i<a.length:=by simpa using h2
  have hib:i<b.length:=by omega
  have ea:=sa (a.getD i default) (by rw[getD_some hi']; exact List.getElem_mem hi');have eb:=sb (b.getD i default) (by rw[getD_some hib]; exact List.getElem_mem hib);repeat(refine VC.mk (by simp only[Rw.rng]; omega) ?_)
  refine ah.pure (S.Uf (a.getD i default) (b.getD i default) ea eb) rfl ?_;refine⟨fun h3=>?_,fun h3=>?_⟩
  ·replace h3:(!decide (a.getD i default=b.getD i default))=true:=h3;have h3':a.getD i default≠b.getD i default:=by simpa using h3
   refine aj.bool ?_;rw[decide_eq_false];rintro rfl;exact h3' rfl
  ·replace h3:(!decide (a.getD i default=b.getD i default))=false:=h3;have h3':a.getD i default=b.getD i default:=by
    rw[Bool.not_eq_false'] at h3;exact of_decide_eq_true h3
   refine .mk (by simp only[okI] at *; omega) ?_;exact⟨i+1,[],⟨hi',aev hi' hib he h3'⟩,by omega,(sR rfl),(sR rfl),trivial⟩
 ·have hi':i=a.length:=by have:=of_decide_eq_false h2; omega
  subst hi';rw[List.take_length,hl,List.take_length] at he;exact aj.bool (by rw[decide_eq_true he])
theorem S.V8(l:List Elem)(f:Bool)(hl:l.length<2^30):aP Tryz.prog 92 (V.aU [.row 3 f (.elems l)]) (Hz.ay []) 0 (fun t hp=>(l=[]/\t=T.nil/\hp=Hz.ay [])\/(t= .own 0/\hp=Hz.ay [(0,some (aZ l))])):=by
 refine oL.of (nx:=0) (h0:=[]) Bd.fU (by simp) ⟨_,_,.inr ⟨rfl,rfl⟩⟩ rfl rfl ?_;refine aai.mk (fun hz=>?_) ?_
 ·have h0:l=[]:=List.eq_nil_of_length_eq_zero hz;refine Fork.mk (fun _=>?_) (fun q=>absurd (q.symm.trans ((rfl:true=true))) Bool.false_ne_true);exact⟨fun _=>False,id,T.nil,Hz.ay [],.inl ⟨h0,rfl,rfl⟩,aC _,(fun i ob hi=>by cases hi),(fun i j hi=>by cases hi),trivial,(fun i ob hi=>by cases hi),fun i hi=>by cases hi⟩
 ·conv=>whnf
  refine Fork.mk (fun q=>absurd (q.symm.trans ((rfl:false=false))).symm Bool.false_ne_true) (fun _=>?_);refine .mk (by show(0+l.length)*32<=140737488355328/\0+l.length<=1152921504606846976; omega) ?_;exact iP.one (c:=0) (j:=5) (o:=aZ l) (t:=.own 0) rfl rfl rfl nofun (.inr rfl) rfl (.eq rfl) (.inr ⟨rfl,rfl⟩)
theorem ah.V8{h:Hz}{n:Nat}{l:List Elem}{f:Bool}{K:V->Hz->Prop}{KW:Nat->V->Hz->Prop}(hn:h.get n=none)(hl:l.length<2^30)
  (h1:l=[]->K (.row 0 true .nil) ((n,none)::h)) (h2:K (.own n) ((n,some (aZ l))::h)):ah Tryz.prog false none 92 [.row 3 f (.elems l)] h n K KW:=by
 refine ah.Ql [] (S.V8 l f hl) rfl rfl rfl rfl rfl trivial hn (by simp) ?_;rintro t hp (⟨a,rfl,rfl⟩|⟨rfl,rfl⟩)
 ·exact⟨.row 0 true .nil,[none],rfl,rfl,⟨rfl,trivial⟩,h1 a⟩
 ·exact⟨.own n,[some (aZ l)],rfl,rfl,⟨congrArg some (tq rfl _).symm,trivial⟩,h2⟩
theorem S.AB(l:List Elem)(hl:l.length<2^29)(hg: ∀ e∈l,BK e):aP Tryz.prog 75 (V.aU [.own 0]) (Hz.ay [(0,some (aZ l))]) 1 (fun t hp=>t=(V.row 3 false (.elems (aK l))).aH/\hp=Hz.ay []):=by
 refine aP.ahm (S.zf l 1 (by decide) hl hg) ?_;have hs: ∀ o:OV,abE (fun _=>True) (Hz.ay [(1,some o)])=Hz.ay []:=fun o=>by
  funext i;simp only[abE,if_true];rfl
 rintro t hp (⟨rfl,rfl⟩|⟨m,rfl,rfl⟩)
 ·exact⟨fun _=>True,_,BP trivial rfl,rfl,rfl,hs _⟩
 ·exact⟨fun _=>True,_,(aj.acZ (m:=m) rfl).ok,rfl,rfl,hs _⟩
theorem ah.AB{h:Hz}{i n:Nat}{l:List Elem}{K:V->Hz->Prop}{KW:Nat->V->Hz->Prop}(hi:h.get i=some (aZ l))(hn:h.get n=none)(hin:i≠n)(hl:l.length<2^29)(hg: ∀ e∈l,BK e)
  (hK:K (.row 3 false (.elems (aK l))) ((i,none)::(n,none)::h)):ah Tryz.prog false none 75 [.own i] h n K KW:=by
 refine ah.Ql [i] (S.AB l hl hg) rfl rfl rfl rfl rfl ⟨⟨_,hi,tq rfl _⟩,trivial⟩ hn (by simp; exact hin) ?_;rintro t hp ⟨rfl,rfl⟩;exact⟨_,[none,none],rfl,Tj rfl _,⟨rfl,rfl,trivial⟩,hK⟩
def gU(p:aI)(b:List Elem)(i:Nat):List Elem:=b++(b.take i).flatMap fun x=>(jg p x).2
def growE(p:aI)(b:List Elem):Option (List Elem):=bif b.any (fun x=>(jg p x).1 !=0) then none else bif decide (100<(aK (gU p b b.length)).length) then none else some (aK (gU p b b.length))
def nU(p:aI):Nat->List Elem->Nat->Option (List Elem×Nat×Bool)
 |0,b,k=>match growE p b with
  |none=>none
  |some l=>some (b,k,decide (l=b))
 |f+1,b,k=>match growE p b with
  |none=>none
  |some l=>bif decide (l=b) then some (b,k,true) else nU p f l (k+1)
theorem pJ{p:aI}{f:Nat}{b:List Elem}{k:Nat}(h:growE p b=none):nU p f b k=none:=by
 cases f<;>simp only[nU,h]
theorem Fg{p:aI}{f:Nat}{b:List Elem}{k:Nat}(h:growE p b=some b):nU p f b k=some (b,k,true):=by
 cases f<;>simp only[nU,h,decide_true,cond_true]
theorem Pg{p:aI}{b l:List Elem}{k:Nat}(h:growE p b=some l)(hn:l≠b):nU p 0 b k=some (b,k,false):=by
 simp only[nU,h,decide_eq_false hn]
theorem Fh{p:aI}{f:Nat}{b l:List Elem}{k:Nat}(h:growE p b=some l)(hn:l≠b):nU p (f+1) b k=nU p f l (k+1):=by
 simp only[nU,h,decide_eq_false hn,cond_false]
theorem Ug{p:aI}{e:Elem}:(jg p e).1=0\/(jg p e).1=4:=by
 unfold jg;cases p.rules.any (fun r=>(pO p r e).1 !=0)
 ·cases decide (100<(aK (iw p e p.rules.length)).length)
  ·exact .inl rfl
  ·exact .inr rfl
 ·exact .inr rfl
theorem Dp{p:aI}{e:Elem}:(jg p e).2.length<=100:=by
 unfold jg;cases p.rules.any (fun r=>(pO p r e).1 !=0)
 ·cases h:decide (100<(aK (iw p e p.rules.length)).length) with
  |false=>have:=of_decide_eq_false h; show(aK _).length<=100; omega
  |true=>exact Nat.zero_le _
 ·exact Nat.zero_le _
theorem MX{p:aI}{e x:Elem}(hF:Bh p e)(h:x∈(jg p e).2):lH p x=false:=by
 unfold jg at h;cases h1:p.rules.any (fun r=>(pO p r e).1 !=0) with
 |true=>rw[h1] at h; cases h
 |false =>
  rw[h1,cond_false] at h;cases h2:decide (100<(aK (iw p e p.rules.length)).length) with
  |true=>rw[h2] at h; cases h
  |false=>rw[h2,cond_false] at h; exact Fb hF (mX h)
theorem Fj{p:aI}{b:List Elem}{i:Nat}(hi:i<b.length):gU p b (i+1)=gU p b i++(jg p (b.getD i default)).2:=by
 unfold gU;rw[List.take_succ_eq_append_getElem hi,List.flatMap_append,getD_some hi,List.append_assoc]; simp
theorem I9{p:aI}{b:List Elem}{i:Nat}:(gU p b i).length<=b.length+i*100:=by
 have: ∀ L:List Elem,(L.flatMap fun r=>(jg p r).2).length<=L.length*100:=by
  intro L;induction L with
  |nil=>simp
  |cons c L ih=>rw[List.flatMap_cons,List.length_append,List.length_cons,Nat.succ_mul]; have:=@Dp p c; omega
 unfold gU;rw[List.length_append];have h1:=this (b.take i);have h2:(b.take i).length*100<=i*100:=Nat.mul_le_mul_right _ (by rw[List.length_take]; omega);omega
def yY(p:aI)(b:List Elem):Prop:= ∀ x∈b,Bh p x
theorem wR{p:aI}{b:List Elem}{i:Nat}(hb:yY p b):yY p (gU p b i):=by
 intro x hx;rcases List.mem_append.1 hx with hx|hx
 ·exact hb x hx
 ·obtain⟨y,hy,hx⟩:=List.mem_flatMap.1 hx;have hF:=hb y (List.mem_of_mem_take hy);exact MV hF (MX hF hx)
theorem Ph{p:aI}{x:Elem}(h:Bh p x):BK x:=by
 have h1:=h.valid.states;have h2:=h.len;exact⟨by omega,fun y hy=>by have:=h.nums y hy; omega⟩
theorem Zw{p:aI}{b l:List Elem}(hb:yY p b)(h:growE p b=some l):yY p l/\l.length<=100:=by
 unfold growE at h;cases h1:b.any (fun x=>(jg p x).1 !=0) with
 |true=>rw[h1] at h; cases h
 |false =>
  rw[h1,cond_false] at h;cases h2:decide (100<(aK (gU p b b.length)).length) with
  |true=>rw[h2] at h; cases h
  |false =>
   rw[h2,cond_false] at h;cases h;exact⟨fun x hx=>wR hb x (mX hx),by have:=of_decide_eq_false h2; omega⟩
def Uh(o:Option (List Elem×Nat×Bool)):V:=match o with
 |none=>.dW [.row 3 false (.elems []),.int 0,.bool false,.int 4]
 |some (b,k,d)=>.dW [.row 3 false (.elems b),.int k,.bool d,.int 0]
theorem Ja(o:Option (List Elem×Nat×Bool)):(Uh o).free=true:=by
 match o with
 |none=>rfl
 |some (b,k,d)=>rfl
theorem aj.Ui{h:Hz}{a c:V}{b:Bool}:aj (.dW [.row 3 false (.elems []),a,.bool b,c]) (.dW [.row 0 true .nil,a,.bool b,c]) h:=⟨by
 show T.sub (fun _=>True) h.ay (.dW [.sl 3 false [],a.aH,(V.bool b).aH,c.aH]) (.dW [.sl 0 true [],a.aH,(V.bool b).aH,c.aH]);simp only[T.sub,T.dA]
 exact⟨⟨.inl trivial,.inr trivial,fun h=>by cases h⟩,aC _,aC _,aC _,trivial⟩⟩
def wS(p:aI)(q:Prop')(rounds:Int):Option (List Elem×Nat×Bool):=bif decide (100<(iO p q).length) then none else nU p rounds.toNat (iO p q) 0
theorem QD{p:aI}{q:Prop'}(hc:dn p q=0):yY p (iO p q):=by
 obtain⟨_,_,b3,b4⟩:=H9 hc;have hcov:FK p=0:=by unfold FK; rw[show(bI p !=0)=false by simp[b3],b4]; rfl
 intro x hx;refine QA hcov ?_;unfold iO at hx;rw[show(dn p q !=0)=false by simp[hc],cond_false] at hx;obtain⟨w,hw,h3⟩:=List.mem_flatMap.1 hx;obtain⟨u,_,rfl⟩:=List.mem_map.1 h3;have hw':=List.mem_range.1 hw;unfold lH;have hl:(mP p.states.length u).length=p.states.length:=iD;have hall:(mP p.states.length u).all AU=true:=by
  rw[List.all_eq_true];intro y hy;have:=FU y hy;cases hk:AU y with
  |true=>rfl
  |false =>
   have h:=QE (x:=y);rw[hk] at h;simp only[Bool.not_false,Bool.or_eq_true,decide_eq_true_eq] at h;omega
 show(((((mP p.states.length u).length:Int) !=p.states.length)|| !((mP p.states.length u).all AU))||decide ((w:Int)<0)||decide ((w:Int)>=max 1 (p.values.length:Int)))=false;rw[hl,hall,decide_eq_false (by omega: ¬ (w:Int)<0),decide_eq_false (by omega: ¬ (w:Int)>=max 1 (p.values.length:Int))];simp
set_option maxHeartbeats 2000000 in
theorem S.mM(p:aI)(q:Prop')(rounds:Int)(hp:eU p)(hq:kM q)(hc:dn p q=0)(hr:rounds<2^40):ak Tryz.prog 57 [.dat (.fV p),.dat (.prop q),.int rounds] (Uh (wS p q rounds)):=by
 have hbf:=QD hc;obtain⟨l1,l2⟩:=BM p q hp;obtain⟨_,b2,b3,_⟩:=H9 hc;have hv:=KA b3;have v1:=hv.pos; have v2:=hv.states; have v3:=hv.values;have hbad:iO p q=aK (wX q p.states.length (max 1 p.values.length) (4 ^ p.states.length)):=by rw[iO,show(dn p q !=0)=false by simp[hc],bad_law]; rfl
 generalize hres:Uh (wS p q rounds)=res;refine ak.of Bd.mM (by simp) rfl (by rw[<- hres]; exact Ja _) ?_;refine ah.pure (S.jv p q p.states.length (max 1 p.values.length) hp hq rfl v1 v2 rfl (by omega) b2) rfl ?_;conv=>whnf
 rw[<- hbad];by_cases ahr:100<(iO p q).length
 ·have hB:wS p q rounds=none:=by unfold wS; rw[decide_eq_true ahr]; rfl
  refine aA.times 1 rfl ?_;refine Fork.mk (fun _=>?_) (fun q=>absurd (q.symm.trans (decide_eq_true (by omega))) Bool.false_ne_true);conv=>whnf
  rw[<- hres,hB];exact aj.Ui
 have hB:wS p q rounds=nU p rounds.toNat (iO p q) 0:=by unfold wS; rw[decide_eq_false ahr]; rfl
 refine aA.objs 4 [2,3,4] (fun x:Nat×List Elem=>[(11,.int x.1),(10,.row 3 false (.elems x.2))]) (fun _=>[(0,AA p),(1,QC q)]) (fun x=>x.2.length<=100/\yY p x.2/\Uh (nU p (rounds-(x.1:Int)).toNat x.2 x.1)=res) (fun x=>(rounds-(x.1:Int)).toNat) (0,iO p q) [0,1] rfl (by decide) (fun _=>rfl) ⟨by show(iO p q).length<=100; omega,hbf,by rw[<- hres,hB]; show Uh (nU p (rounds-((0:Nat):Int)).toNat _ _)=_; rw[show rounds-((0:Nat):Int)=rounds by omega]⟩ (sR rfl) ⟨dL rfl rfl,dL rfl rfl,trivial⟩ ?_;refine⟨(sR rfl),rfl,?_⟩;rintro⟨k,b⟩ ⟨ab9,hfit,hR⟩;replace ab9:b.length<=100:=ab9;replace hfit:yY p b:=hfit;replace hR:Uh (nU p (rounds-(k:Int)).toNat b k)=res:=hR;refine Fork.mk (fun q=>absurd (q.symm.trans (decide_eq_false (show ¬ 100<(b.length:Int) by omega))).symm Bool.false_ne_true) (fun _=>?_);refine ah.V8 rfl (show b.length<2^30 by omega) (fun h0=>?_) ?_
 ·replace h0:b=[]:=h0;refine aA.nil 12 35 3 (by rfl) rfl rfl rfl ?_;refine aA.objs 4 [27,28,10,11,2,3,4] (fun i:Nat=>[(29,.int i),(12,.own 2)]) (fun i=>[(0,AA p),(1,QC q),(2,aZ (gU p b i))]) (fun i=>i<=b.length/\(b.take i).any (fun x=>(jg p x).1 !=0)=false) (fun i=>b.length-i) 0 [0,1,13] rfl (by decide) (fun _=>rfl) ⟨Nat.zero_le _,rfl⟩ (sR rfl) ⟨dL rfl rfl,dL rfl rfl,⟨rfl,nofun,rfl,rfl,rfl,_,rfl,rfl,rfl,dP.of_eq (by rw[h0]; rfl)⟩,trivial⟩ ?_;refine⟨(sR rfl),rfl,?_⟩;rintro i ⟨hi,hno⟩;have hgl:=I9 (p:=p) (b:=b) (i:=i);refine⟨fun h2=>?_,fun h2=>?_⟩
  ·have hi':i<b.length:=by simpa using h2
   have hmem:b.getD i default∈b:=by rw[getD_some hi']; exact List.getElem_mem hi'
   have hFx:=hfit _ hmem;have hst:=Fj (p:=p) hi';have hpl:=@Dp p (b.getD i default);have hpe:=@Ug p (b.getD i default);refine .mk (by simp only[Rw.rng] at *; omega) ?_;refine ah.pure (S.wQ p (b.getD i default) hp hFx) rfl ?_;generalize hQ:jg p (b.getD i default)=Q at hst hpl hpe;refine⟨fun h3=>?_,fun h3=>?_⟩
   ·replace h3:(Q.1 !=0)=true:=h3;have h4:Q.1=4:=by
     rcases hpe with h|h
     ·rw[h] at h3; cases h3
     ·exact h
    have hnone:growE p b=none:=by
     unfold growE;rw[List.any_eq_true.2 ⟨_,hmem,by rw[hQ]; exact h3⟩]; rfl
    conv=>whnf
    rw[<- hR,pJ hnone,h4];exact aj.Ui
   ·replace h3:(Q.1 !=0)=false:=h3;repeat(refine VC.mk (by first|(show((gU p b i).length+Q.2.length)*32<=140737488355328/\(gU p b i).length+Q.2.length<=1152921504606846976; omega)|(simp only[okI] at *; omega)) ?_)
    refine⟨i+1,[0,1,21],⟨hi',?_⟩,by omega,(sR rfl),(sR rfl),dL rfl rfl,dL rfl rfl,⟨rfl,nofun,rfl,rfl,rfl,_,rfl,rfl,rfl,dP.of_eq (by rw[hst])⟩,trivial⟩;rw[List.take_succ_eq_append_getElem hi',List.any_append,hno,Bool.false_or,<- getD_some (d:=default) hi'];show((jg p (b.getD i default)).1 !=0||false)=false;rw[hQ,h3]; rfl
  have hi':i=b.length:=by replace h2:decide ((i:Int)<(b.length:Int))=false:=h2; have:=of_decide_eq_false h2; omega
  subst hi';rw[List.take_length] at hno;have hgr:growE p b=bif decide (100<(aK (gU p b b.length)).length) then none else some (aK (gU p b b.length)):=by unfold growE; rw[hno]; rfl
  have hgf:=wR (i:=b.length) hfit;refine ah.AB rfl rfl (by decide) (by omega) (fun x hx=>Ph (hgf x hx)) ?_;have hml:=uy (gU p b b.length);have hnf:yY p (aK (gU p b b.length)):=fun x hx=>hgf x (mX hx)
  generalize hM:aK (gU p b b.length)=M at hgr hml hnf;refine⟨fun h3=>?_,fun h3=>?_⟩
  ·replace h3:decide (100<(M.length:Int))=true:=h3;have:=of_decide_eq_true h3;rw[decide_eq_true (by omega:100<M.length),cond_true] at hgr;conv=>whnf
   rw[<- hR,pJ hgr];exact aj.Ui
  replace h3:decide (100<(M.length:Int))=false:=h3;have ahs:=of_decide_eq_false h3;rw[decide_eq_false (by omega: ¬ 100<M.length),cond_false] at hgr;refine ah.pure (S.O9 M b false false (by omega) (by omega) (fun x hx=>by have:=(hnf x hx).len; have:=(hnf x hx).valid.states; omega) (fun x hx=>by have:=(hfit x hx).len; have:=(hfit x hx).valid.states; omega)) rfl ?_;refine⟨fun h4=>?_,fun h4=>?_⟩
  ·have Yk:M=b:=of_decide_eq_true h4;rw[Yk] at hgr;conv=>whnf
   rw[<- hR,Fg hgr];exact aj.eqv rfl
  have Yk:M≠b:=of_decide_eq_false h4;refine⟨fun h5=>?_,fun h5=>?_⟩
  ·have hkr:(rounds-(k:Int)).toNat=0:=by have:=of_decide_eq_true h5; omega
   conv=>whnf
   rw[<- hR,hkr,Pg hgr Yk];exact aj.eqv rfl
  ·have hkr:(rounds-(k:Int)).toNat=(rounds-((k+1:Nat):Int)).toNat+1:=by have:=of_decide_eq_false h5; omega
   refine .mk (by simp only[okI] at *; omega) ?_;refine⟨(k+1,M),[0,1],⟨by show M.length<=100; omega,hnf,?_⟩,?_,(sR rfl),(sR rfl),dL rfl rfl,dL rfl rfl,trivial⟩
   ·show Uh (nU p (rounds-((k+1:Nat):Int)).toNat M (k+1))=res;rw[<- hR,hkr,Fh hgr Yk]
   ·show(rounds-((k+1:Nat):Int)).toNat<(rounds-(k:Int)).toNat;omega
 ·conv=>whnf
  refine aA.objs 4 [27,28,10,11,2,3,4] (fun i:Nat=>[(29,.int i),(12,.own 2)]) (fun i=>[(0,AA p),(1,QC q),(2,aZ (gU p b i))]) (fun i=>i<=b.length/\(b.take i).any (fun x=>(jg p x).1 !=0)=false) (fun i=>b.length-i) 0 [0,1,8] rfl (by decide) (fun _=>rfl) ⟨Nat.zero_le _,rfl⟩ (sR rfl) ⟨dL rfl rfl,dL rfl rfl,⟨rfl,nofun,rfl,rfl,rfl,_,rfl,rfl,rfl,dP.of_eq (by unfold gU; simp)⟩,trivial⟩ ?_;refine⟨(sR rfl),rfl,?_⟩;rintro i ⟨hi,hno⟩;have hgl:=I9 (p:=p) (b:=b) (i:=i);refine⟨fun h2=>?_,fun h2=>?_⟩
  ·have hi':i<b.length:=by simpa using h2
   have hmem:b.getD i default∈b:=by rw[getD_some hi']; exact List.getElem_mem hi'
   have hFx:=hfit _ hmem;have hst:=Fj (p:=p) hi';have hpl:=@Dp p (b.getD i default);have hpe:=@Ug p (b.getD i default);refine .mk (by simp only[Rw.rng] at *; omega) ?_;refine ah.pure (S.wQ p (b.getD i default) hp hFx) rfl ?_;generalize hQ:jg p (b.getD i default)=Q at hst hpl hpe;refine⟨fun h3=>?_,fun h3=>?_⟩
   ·replace h3:(Q.1 !=0)=true:=h3;have h4:Q.1=4:=by
     rcases hpe with h|h
     ·rw[h] at h3; cases h3
     ·exact h
    have hnone:growE p b=none:=by
     unfold growE;rw[List.any_eq_true.2 ⟨_,hmem,by rw[hQ]; exact h3⟩]; rfl
    conv=>whnf
    rw[<- hR,pJ hnone,h4];exact aj.Ui
   ·replace h3:(Q.1 !=0)=false:=h3;repeat(refine VC.mk (by first|(show((gU p b i).length+Q.2.length)*32<=140737488355328/\(gU p b i).length+Q.2.length<=1152921504606846976; omega)|(simp only[okI] at *; omega)) ?_)
    refine⟨i+1,[0,1,21],⟨hi',?_⟩,by omega,(sR rfl),(sR rfl),dL rfl rfl,dL rfl rfl,⟨rfl,nofun,rfl,rfl,rfl,_,rfl,rfl,rfl,dP.of_eq (by rw[hst])⟩,trivial⟩;rw[List.take_succ_eq_append_getElem hi',List.any_append,hno,Bool.false_or,<- getD_some (d:=default) hi'];show((jg p (b.getD i default)).1 !=0||false)=false;rw[hQ,h3]; rfl
  have hi':i=b.length:=by replace h2:decide ((i:Int)<(b.length:Int))=false:=h2; have:=of_decide_eq_false h2; omega
  subst hi';rw[List.take_length] at hno;have hgr:growE p b=bif decide (100<(aK (gU p b b.length)).length) then none else some (aK (gU p b b.length)):=by unfold growE; rw[hno]; rfl
  have hgf:=wR (i:=b.length) hfit;refine ah.AB rfl rfl (by decide) (by omega) (fun x hx=>Ph (hgf x hx)) ?_;have hml:=uy (gU p b b.length);have hnf:yY p (aK (gU p b b.length)):=fun x hx=>hgf x (mX hx)
  generalize hM:aK (gU p b b.length)=M at hgr hml hnf;refine⟨fun h3=>?_,fun h3=>?_⟩
  ·replace h3:decide (100<(M.length:Int))=true:=h3;have:=of_decide_eq_true h3;rw[decide_eq_true (by omega:100<M.length),cond_true] at hgr;conv=>whnf
   rw[<- hR,pJ hgr];exact aj.Ui
  replace h3:decide (100<(M.length:Int))=false:=h3;have ahs:=of_decide_eq_false h3;rw[decide_eq_false (by omega: ¬ 100<M.length),cond_false] at hgr;refine ah.pure (S.O9 M b false false (by omega) (by omega) (fun x hx=>by have:=(hnf x hx).len; have:=(hnf x hx).valid.states; omega) (fun x hx=>by have:=(hfit x hx).len; have:=(hfit x hx).valid.states; omega)) rfl ?_;refine⟨fun h4=>?_,fun h4=>?_⟩
  ·have Yk:M=b:=of_decide_eq_true h4;rw[Yk] at hgr;conv=>whnf
   rw[<- hR,Fg hgr];exact aj.eqv rfl
  have Yk:M≠b:=of_decide_eq_false h4;refine⟨fun h5=>?_,fun h5=>?_⟩
  ·have hkr:(rounds-(k:Int)).toNat=0:=by have:=of_decide_eq_true h5; omega
   conv=>whnf
   rw[<- hR,hkr,Pg hgr Yk];exact aj.eqv rfl
  ·have hkr:(rounds-(k:Int)).toNat=(rounds-((k+1:Nat):Int)).toNat+1:=by have:=of_decide_eq_false h5; omega
   refine .mk (by simp only[okI] at *; omega) ?_;refine⟨(k+1,M),[0,1],⟨by show M.length<=100; omega,hnf,?_⟩,?_,(sR rfl),(sR rfl),dL rfl rfl,dL rfl rfl,trivial⟩
   ·show Uh (nU p (rounds-((k+1:Nat):Int)).toNat M (k+1))=res;rw[<- hR,hkr,Fh hgr Yk]
   ·show(rounds-((k+1:Nat):Int)).toNat<(rounds-(k:Int)).toNat;omega
def X0(p:aI)(q:Prop')(rounds:Int):Int×List Elem×Bool:=bif dn p q !=0 then(dn p q,[],false) else bif decide (100<rounds) then(1,[],false) else match wS p q rounds with
 |none=>(4,[],false)
 |some (b,_,d)=>(0,b,d)
def bkV(x:Int×List Elem×Bool):V:=.dW [.row 3 false (.elems x.2.1),.bool x.2.2,.int x.1]
theorem aj.aht{h:Hz}{c:V}{b:Bool}:aj (.dW [.row 3 false (.elems []),.bool b,c]) (.dW [.row 0 true .nil,.bool b,c]) h:=⟨by
 show T.sub (fun _=>True) h.ay (.dW [.sl 3 false [],(V.bool b).aH,c.aH]) (.dW [.sl 0 true [],(V.bool b).aH,c.aH]);simp only[T.sub,T.dA]
 exact⟨⟨.inl trivial,.inr trivial,fun h=>by cases h⟩,aC _,aC _,trivial⟩⟩
theorem S.oV(p:aI)(q:Prop')(rounds:Int)(hp:eU p)(hq:kM q):ak Tryz.prog 26 [.dat (.fV p),.dat (.prop q),.int rounds] (bkV (X0 p q rounds)):=by
 generalize hres:bkV (X0 p q rounds)=res;refine ak.of Bd.oV (by simp) rfl (by rw[<- hres]; rfl) ?_;refine ah.pure (S.mQ p q hp hq) rfl ?_;refine⟨fun h1=>?_,fun h1=>?_⟩
 ·replace h1:(dn p q !=0)=true:=h1;conv=>whnf
  rw[<- hres,X0,h1];exact aj.aht
 replace h1:(dn p q !=0)=false:=h1;refine⟨fun h2=>?_,fun h2=>?_⟩
 ·replace h2:decide (100<rounds)=true:=h2;conv=>whnf
  rw[<- hres,X0,h1,h2];exact aj.aht
 replace h2:decide (100<rounds)=false:=h2;have hr:=of_decide_eq_false h2;have hX:X0 p q rounds=match wS p q rounds with
  |none=>(4,[],false)
  |some (b,_,d)=>(0,b,d):=by rw[X0,h1,h2]; rfl
 refine ah.pure (S.mM p q rounds hp hq (BD h1) (by omega)) (Ja _) ?_;match hs:wS p q rounds with
 |none =>
  rw[hs] at hX;conv=>whnf
  rw[<- hres,hX];exact aj.eqv rfl
 |some (b,k,d) =>
  rw[hs] at hX;conv=>whnf
  rw[<- hres,hX];exact aj.eqv rfl
def aew(p:aI)(q:Prop')(s:Int×Int)(x:Elem):Int×Int:=bif BA p q x&&(s.1==1||decide (dZ x<s.2)) then(2,dZ x) else s
def JG(p:aI)(q:Prop')(b:List Elem)(i:Nat):Int×Int:=(b.take i).foldl (aew p q) (1,0)
theorem Zx{p:aI}{q:Prop'}{b:List Elem}{i:Nat}(hi:i<b.length):JG p q b (i+1)=aew p q (JG p q b i) (b.getD i default):=by
 unfold JG;rw[List.take_succ_eq_append_getElem hi,List.foldl_append,getD_some hi]; rfl
def QF(p:aI)(q:Prop')(rounds:Int):Int×Int×List Elem×Int×Int:=bif dn p q !=0 then(dn p q,0,[],0,0) else bif decide (100<rounds) then(1,0,[],0,0) else match wS p q rounds with
 |none=>(4,0,[],0,0)
 |some (b,k,d)=>bif d then(0,(JG p q b b.length).1,b,(JG p q b b.length).2,k) else(0,0,[],0,k)
def ahu(x:Int×Int×List Elem×Int×Int):V:=.dW [.agg [.int x.2.1,.row 3 false (.elems x.2.2.1),.int x.2.2.2.1,.int x.2.2.2.2],.int x.1]
theorem aj.aex{h:Hz}{a c d e:V}:aj (.dW [.agg [a,.row 3 false (.elems []),c,d],e]) (.dW [.agg [a,.row 0 true .nil,c,d],e]) h:=⟨by
 show T.sub (fun _=>True) h.ay (.dW [.agg [a.aH,.sl 3 false [],c.aH,d.aH],e.aH]) (.dW [.agg [a.aH,.sl 0 true [],c.aH,d.aH],e.aH]);simp only[T.sub,T.dA]
 exact⟨⟨aC _,⟨.inl trivial,.inr trivial,fun h=>by cases h⟩,aC _,aC _,trivial⟩,aC _,trivial⟩⟩
abbrev boxS(a:Int)(b:List Elem)(c d:Int):OV:=.box 56 5 (.agg [.int a,.row 3 false (.elems b),.int c,.int d])
theorem QV{p:aI}{q:Prop'}{rounds:Int}{b:List Elem}{k:Nat}{d:Bool}(hc:dn p q=0)(h:wS p q rounds=some (b,k,d)):yY p b/\b.length<=100:=by
 unfold wS at h;cases h1:decide (100<(iO p q).length) with
 |true=>rw[h1] at h; cases h
 |false =>
  rw[h1,cond_false] at h
  have: ∀ f b0 k0,yY p b0->b0.length<=100->nU p f b0 k0=some (b,k,d)->yY p b/\b.length<=100:=by
   intro f;induction f with
   |zero =>
    intro b0 k0 h1 h2 h3;simp only[nU] at h3;split at h3
    ·cases h3
    ·cases h3; exact⟨h1,h2⟩
   |succ f ih =>
    intro b0 k0 h1 h2 h3;simp only[nU] at h3;split at h3
    ·cases h3
    ·rename_i l hl;obtain⟨g1,g2⟩:=Zw h1 hl;cases he:decide (l=b0) with
     |true=>rw[he] at h3; cases h3; exact⟨h1,h2⟩
     |false=>rw[he] at h3; exact ih l _ g1 g2 h3
  exact this _ _ _ (QD hc) (by have:=of_decide_eq_false h1; omega) h
set_option maxHeartbeats 1000000 in
theorem S.vw(p:aI)(q:Prop')(rounds:Int)(hp:eU p)(hq:kM q):ak Tryz.prog 28 [.dat (.fV p),.dat (.prop q),.int rounds] (ahu (QF p q rounds)):=by
 generalize hres:ahu (QF p q rounds)=res;refine ak.of Bd.vw (by simp) rfl (by rw[<- hres]; rfl) ?_;refine ah.pure (S.mQ p q hp hq) rfl ?_;refine⟨fun h1=>?_,fun h1=>?_⟩
 ·replace h1:(dn p q !=0)=true:=h1;conv=>whnf
  rw[<- hres,QF,h1];exact aj.aex
 replace h1:(dn p q !=0)=false:=h1;refine⟨fun h2=>?_,fun h2=>?_⟩
 ·replace h2:decide (100<rounds)=true:=h2;conv=>whnf
  rw[<- hres,QF,h1,h2];exact aj.aex
 replace h2:decide (100<rounds)=false:=h2;have hr:=of_decide_eq_false h2;have hX:QF p q rounds=match wS p q rounds with
  |none=>(4,0,[],0,0)
  |some (b,k,d)=>bif d then(0,(JG p q b b.length).1,b,(JG p q b b.length).2,k) else(0,0,[],0,k):=by rw[QF,h1,h2]; rfl
 refine ah.pure (S.mM p q rounds hp hq (BD h1) (by omega)) (Ja _) ?_;match hs:wS p q rounds with
 |none =>
  rw[hs] at hX;refine Fork.mk (fun _=>?_) (fun q=>absurd (q.symm.trans (rfl)) Bool.false_ne_true);conv=>whnf
  rw[<- hres,hX];exact aj.aex
 |some (b,k,false) =>
  rw[hs] at hX;refine Fork.mk (fun q=>absurd (q.symm.trans (rfl)).symm Bool.false_ne_true) (fun _=>?_);refine Fork.mk (fun _=>?_) (fun q=>absurd (q.symm.trans (rfl)) Bool.false_ne_true);conv=>whnf
  rw[<- hres,hX];exact aj.aex
 |some (b,k,true) =>
  rw[hs] at hX;obtain⟨hfit,ab9⟩:=QV (BD h1) hs;refine Fork.mk (fun q=>absurd (q.symm.trans (rfl)).symm Bool.false_ne_true) (fun _=>?_);refine Fork.mk (fun q=>absurd (q.symm.trans (rfl)).symm Bool.false_ne_true) (fun _=>?_);refine aA.objs 4 [47,48,3,4,6] (fun i:Nat=>[(49,.int i),(13,.ptr 3 0 0)]) (fun i=>[(0,AA p),(1,QC q),(2,.box 56 5 (.agg [.int 0,.row 0 true .nil,.int 0,.int 0])),(3,boxS (JG p q b i).1 b (JG p q b i).2 k)]) (fun i=>i<=b.length) (fun i=>b.length-i) 0 [0,1,2,32] rfl (by decide) (fun _=>rfl) (Nat.zero_le _) (sR rfl) ⟨dL rfl rfl,dL rfl rfl,dL rfl rfl,dL rfl rfl,trivial⟩ ?_;refine⟨(sR rfl),rfl,?_⟩;rintro i hi;refine⟨fun h3=>?_,fun h3=>?_⟩
  ·have hi':i<b.length:=by simpa using h3
   have hst:=Zx (p:=p) (q:=q) hi';have hF:=hfit (b.getD i default) (by rw[getD_some hi']; exact List.getElem_mem hi');have hle:(b.getD i default).counts.length<2^30:=by have:=hF.len; have:=hF.valid.states; omega
   refine .mk (by simp only[Rw.rng] at *; omega) ?_;refine ah.pure (S.o7 (b.getD i default) (by omega)) rfl ?_;refine ah.pure (S.nZ p q (b.getD i default) hp hq hle (EH (BD h1))) rfl ?_;generalize hS:JG p q b i=s at hst;repeat(refine VC.mk (by first|exact id|exact fun h=>⟨h,h⟩|(intro h; simp_all; done)) ?_)
   refine⟨fun h4=>?_,fun h4=>?_⟩
   ·replace h4:(BA p q (b.getD i default)&&(s.1==1||decide (dZ (b.getD i default)<s.2)))=true:=h4;have hst':JG p q b (i+1)=(2,dZ (b.getD i default)):=by rw[hst,aew,h4]; rfl
    refine .mk (by simp only[okI] at *; omega) ?_;exact⟨i+1,[0,1,2,3],hi',by omega,(sR rfl),(sR rfl),dL rfl rfl,dL rfl rfl,dL rfl rfl,⟨rfl,nofun,rfl,rfl,rfl,_,rfl,rfl,rfl,dP.of_eq (by rw[hst']; rfl)⟩,trivial⟩
   ·replace h4:(BA p q (b.getD i default)&&(s.1==1||decide (dZ (b.getD i default)<s.2)))=false:=h4;have hst':JG p q b (i+1)=s:=by rw[hst,aew,h4]; rfl
    refine .mk (by simp only[okI] at *; omega) ?_;exact⟨i+1,[0,1,2,3],hi',by omega,(sR rfl),(sR rfl),dL rfl rfl,dL rfl rfl,dL rfl rfl,⟨rfl,nofun,rfl,rfl,rfl,_,rfl,rfl,rfl,dP.of_eq (by rw[hst'])⟩,trivial⟩
  ·have hi':i=b.length:=by have:=of_decide_eq_false h3; omega
   subst hi';conv=>whnf
   rw[<- hres,hX];exact aj.eqv rfl
def Jb(name:Str)(fr tt read write:Int):Rule:=⟨name,1,fr,tt,0,0,[],[],[],[],read,write,[],0,[],[],[],0⟩
def uJ:aI:=⟨[109,120],1,[[105],[119],[99]],[],[[102,114,101,101],[104,101,108,100]],0,[],[0],[],[Jb [97,115,107] 0 1 (-1) (-1),Jb [116,97,107,101] 1 2 0 1,Jb [108,101,97,118,101] 2 0 1 0]⟩
def EC:Prop':=⟨[101,120],1,[],[⟨[2],2⟩],[],[]⟩
theorem AL{name:Str}{fr tt read write:Int}(_h:name.length<2^30):vG (Jb name fr tt read write):=by
 constructor<;>simp[Jb]
theorem Jw:eU uJ:=by
 refine⟨by decide,by decide,by decide,by decide,by decide,by decide,by decide,fun i=>?_,by decide⟩;match i with
 |0=>exact AL (by decide)
 |1=>exact AL (by decide)
 |2=>exact AL (by decide)
 |i+3=>constructor<;>exact(by decide:(0:Nat)<2^30)
def Hu:V:=.row 0 true .nil
def XK(name:Str)(fr tt rd wr:Int):V:=.agg [.str name,.int 1,.int fr,.int tt,.int 0,.int 0,Hu,Hu,Hu,Hu,.int rd,.int wr,Hu,.int 0,Hu,Hu,Hu,.int 0]
def acd:V:=.agg [.str uJ.name,.int 1,.row 0 false (.strs uJ.states),Hu,.row 0 false (.strs uJ.values),.int 0,Hu,.row 0 false (.ints [0]),Hu,.II 19 false [XK [97,115,107] 0 1 (-1) (-1),XK [116,97,107,101] 1 2 0 1,XK [108,101,97,118,101] 2 0 1 0]]
theorem vC{Z:Nat->Prop}{h:Hp}{k:Nat}{l:List T}:T.sub Z h (.sl k false l) (.sl k true l):=⟨.inl rfl,.inl rfl,fun h=>by cases h⟩
theorem oP{Z:Nat->Prop}{h:Hp}{k:Nat}:T.sub Z h (.sl k false []) T.nil:=⟨.inl rfl,.inr rfl,fun h=>by cases h⟩
theorem ak.weak{P:Program}{f:FuncId}{args:List V}{a b:V}(S:ak P f args a)(hs:T.sub (fun _=>True) no b.aH a.aH)(hb:b.free=true):ak P f args b :=
 BR.shut S (fun _=>hs) (V.pq b hb)
theorem MZ{Z:Nat->Prop}{h:Hp}{name:Str}{fr tt rd wr:Int}:T.sub Z h (LV (Jb name fr tt rd wr)) (XK name fr tt rd wr).aH:=by
 refine⟨aC _,aC _,aC _,aC _,aC _,aC _,oP,oP,oP,oP,aC _,aC _,oP,aC _,oP,oP,oP,aC _,trivial⟩
theorem Zy:T.sub (fun _=>True) no (aa9 uJ) acd.aH:=by
 refine⟨aC _,aC _,aC _,oP,aC _,aC _,oP,aC _,oP,⟨.inr ⟨⟨MZ,MZ,MZ,trivial⟩,fun t ht=>?_⟩,.inl rfl,fun h=>h⟩,trivial⟩;obtain⟨x,_,rfl⟩:=List.mem_map.1 ht; rfl
theorem XL{Z:Nat->Prop}{h:Hp}{k i ty:Nat}{l:List T}(hz:Z i)(hf:T.bW l=true)(hk:k≠iL)(q:h i=some ⟨ty,k,l⟩):T.sub Z h (.sl k false l) (.own i):=⟨rfl,hz,hf,hk,ty,q⟩
theorem S.Na:ak Tryz.prog 39 [] (.dat (.fV uJ)):=by
 refine ak.weak (a:=acd) ?_ Zy rfl;refine ak.of Bd.oJ (by simp) rfl rfl ?_;refine⟨⟨aC _,aC _,vC,aC _,vC,aC _,aC _,vC,aC _,XL trivial rfl (by decide) rfl,trivial⟩⟩
def ahv:V:=.agg [.str EC.name,.int 1,Hu,.II 3 false [.agg [.row 0 true (.ints [2]),.int 2]],Hu,Hu]
theorem S.Dq:ak Tryz.prog 40 [] (.dat (.prop EC)):=by
 refine ak.weak (a:=ahv) ?_ ?_ rfl
 ·refine ak.of Bd.kQ (by simp) rfl rfl ?_;exact⟨⟨aC _,aC _,aC _,XL trivial rfl (by decide) rfl,aC _,aC _,trivial⟩⟩
 ·refine⟨aC _,aC _,oP,⟨.inr ⟨⟨⟨vC,aC _,trivial⟩,trivial⟩,fun t ht=>?_⟩,.inl rfl,fun h=>h⟩,oP,oP,trivial⟩;obtain⟨x,_,rfl⟩:=List.mem_map.1 ht; rfl
def NK:List Elem:=[⟨0,[0,0,2]⟩,⟨0,[0,1,1]⟩,⟨0,[1,0,1]⟩,⟨1,[0,0,2]⟩]
theorem Nb:kM EC:=by
 refine⟨by decide,by decide,by decide,by decide,fun i=>?_⟩;match i with
 |0=>exact(by decide:(1:Nat)<2^30)
 |i+1=>exact(by decide:(0:Nat)<2^30)
theorem Zz:QF uJ EC 9=(0,1,NK,0,(QF uJ EC 9).2.2.2.2):=by kernel_rfl
theorem ZA:QU uJ EC NK=true:=by kernel_rfl
theorem Fp:Fe NK:=by
 intro x hx;simp only[NK,List.mem_cons,List.not_mem_nil,or_false] at hx;rcases hx with rfl|rfl|rfl|rfl<;>exact(by decide:(3:Nat)<2^30)
theorem ah.weak{P:Program}{dr:Bool}{f:FuncId}{args args':List V}{res:V}{h:Hz}{n:Nat}{K:V->Hz->Prop}{KW:Nat->V->Hz->Prop}(S:ak P f args' res)(hs:T.dA (fun _=>False) h.ay (V.aU args') (V.aU args))(hr:res.free=true)(hK:K res h):ah P dr none f args h n K KW :=
 ⟨.inl (BR.use S hs ⟨res,h,rfl,rfl,fun _=>⟨rfl,V.pq res hr⟩,hK⟩)⟩
theorem ah.on{P:Program}{f:FuncId}{args:List V}{h:Hz}{n:Nat}{K:V->Hz->Prop}{KW':Nat->V->Hz->Prop}(H:ah P false none f args h n K fun _ _ _=>False):ah P false (some true) f args h n K KW':=by
 rcases H.ok with H|⟨_,_,k,⟨_,_,_,_,_,_,hk⟩,_⟩|⟨_,e,_⟩
 ·exact⟨.inl (.inr ⟨rfl,fun _=>aP.mono H fun t hp ⟨v,h',a,b,_,c⟩=>⟨v,h',a,b,c⟩,fun e=>by cases e⟩)⟩
 ·exact hk.elim
 ·cases e
set_option maxHeartbeats 1000000 in
theorem S.aeS:ak Tryz.prog 11 [] (.bool true):=by
 refine ak.of Bd.Fq (by simp) rfl rfl ?_;refine ah.pure S.Na rfl ?_;refine ah.pure S.Dq rfl ?_;refine ah.pure (S.vw uJ EC 9 Jw Nb) rfl ?_;rw[Zz];generalize (QF uJ EC 9).2.2.2.2=rd;repeat(refine VC.mk (by first|exact id|exact fun h=>⟨h,h⟩|(intro h; simp only[h,true_and]; done)) ?_)
 have hsame:ak Tryz.prog 24 [.row 3 false (.elems NK),.row 3 true (.elems NK)] (.bool true):=by
  have:=S.uM NK NK false true (by decide) (by decide) Fp.E Fp.E;rwa [decide_eq_true rfl] at this
 refine ah.on (ah.weak hsame ⟨aC _,⟨.inr ⟨⟨⟨aC _,vC,trivial⟩,⟨aC _,vC,trivial⟩,⟨aC _,vC,trivial⟩,⟨aC _,vC,trivial⟩,trivial⟩,fun t ht=>?_⟩,.inl rfl,fun h=>h⟩,trivial⟩ rfl ?_)
 ·obtain⟨x,_,rfl⟩:=List.mem_map.1 ht; rfl
 repeat(refine VC.mk id ?_)
 refine ah.ig (fun _=>S.Na) rfl ?_;refine ah.ig (fun _=>S.Dq) rfl ?_;refine .mk (by intro h; simp_all; done) ?_;conv=>whnf
 have ah9:ak Tryz.prog 14 [.dat (.fV uJ),.dat (.prop EC),.row 3 false (.elems NK)] (.bool true):=by
  have:=S.mJ uJ EC NK false Jw Nb (by decide) Fp;rwa [ZA] at this
 refine ah.ig (fun _=>ah9) rfl ?_;refine VC.mk id ?_;exact aj.bool rfl
end Go.Proofs.YtkmldgihhaooaaaGreatDoor
