/-
 The backward search: the program's answer. No condition.
-/
import Derived.KernelRfl
import Derived.Test.YtkmldgihhaooaaaGreatDoorQc
namespace Go.Proofs.YtkmldgihhaooaaaGreatDoor
open Go.Ab Go.Proofs
set_option maxRecDepth 100000
theorem S.TR(a b:Elem)(ha:a.counts.length<2^40)(hb:b.counts.length<2^40):aj Tryz.prog 94 [.dat (.elem a),.dat (.elem b)] (.bool (decide (a=b))):=by
 refine aj.of Bd.tq (by simp) rfl rfl ?_;refine ah.pure (S.iZ a b ha hb) rfl ?_;refine ak.bool ?_;rw[Bool.eq_iff_iff]; simp only[decide_eq_true_eq,beq_iff_eq];exact jI.symm
theorem aef{a b:List Elem}{i:Nat}(hi:i<a.length)(hb:i<b.length)(h:a.take i=b.take i)(he:a.getD i default=b.getD i default):a.take (i+1)=b.take (i+1):=by
 rw[List.take_succ_eq_append_getElem hi,List.take_succ_eq_append_getElem hb,h,<- getD_some (d:=default) hi,<- getD_some (d:=default) hb,he]
theorem S.OX(a b:List Elem)(f g:Bool)(ha:a.length<2^30)(hb:b.length<2^30)(sa:dX a)(sb:dX b):aj Tryz.prog 93 [.row 3 f (.elems a),.row 3 g (.elems b),.fn 94 []] (.bool (decide (a=b))):=by
 refine aj.of Bd.n93 (by simp) rfl rfl ?_;refine⟨fun h1=>?_,fun h1=>?_⟩
 ·replace h1:((a.length:Int) !=(b.length:Int))=true:=h1;refine ak.bool ?_;rw[decide_eq_false];rintro rfl;simp at h1
 have hl:a.length=b.length:=by
  replace h1:((a.length:Int) !=(b.length:Int))=false:=h1
  have:(a.length:Int)=b.length:=by simpa using h1
  omega
 refine aA.objs 0 [15,16,1,2] (fun i:Nat=>[(17,.int i)]) (fun _=>[]) (fun i=>i<=a.length/\a.take i=b.take i) (fun i=>a.length-i) 0 [] rfl (by decide) (fun _=>rfl) ⟨Nat.zero_le _,rfl⟩ (sR rfl) trivial ?_;refine⟨(sR rfl),rfl,?_⟩;rintro i ⟨hi,he⟩;refine⟨fun h2=>?_,fun h2=>?_⟩
 ·have hi':i<a.length:=by simpa using h2
  have hib:i<b.length:=by omega
  have ea:=sa (a.getD i default) (by rw[getD_some hi']; exact List.getElem_mem hi');have eb:=sb (b.getD i default) (by rw[getD_some hib]; exact List.getElem_mem hib);repeat(refine VC.mk (by simp only[Rw.rng]; omega) ?_)
  refine ah.pure (S.TR (a.getD i default) (b.getD i default) ea eb) rfl ?_;refine⟨fun h3=>?_,fun h3=>?_⟩
  ·replace h3:(!decide (a.getD i default=b.getD i default))=true:=h3;have h3':a.getD i default≠b.getD i default:=by simpa using h3
   refine ak.bool ?_;rw[decide_eq_false];rintro rfl;exact h3' rfl
  ·replace h3:(!decide (a.getD i default=b.getD i default))=false:=h3;have h3':a.getD i default=b.getD i default:=by
    rw[Bool.not_eq_false'] at h3;exact of_decide_eq_true h3
   refine .mk (by simp only[okI] at *; omega) ?_;exact⟨i+1,[],⟨hi',aef hi' hib he h3'⟩,by omega,(sR rfl),(sR rfl),trivial⟩
 ·have hi':i=a.length:=by have:=of_decide_eq_false h2; omega
  subst hi';rw[List.take_length,hl,List.take_length] at he;exact ak.bool (by rw[decide_eq_true he])
theorem S.VU(l:List Elem)(f:Bool)(hl:l.length<2^30):aO Tryz.prog 92 (V.aT [.row 3 f (.elems l)]) (Hz.ay []) 0 (fun t hp=>(l=[]/\t=T.nil/\hp=Hz.ay [])\/(t= .own 0/\hp=Hz.ay [(0,some (bI l))])):=by
 refine oU.of (nx:=0) (h0:=[]) Bd.fP (by simp) ⟨_,_,.inr ⟨rfl,rfl⟩⟩ rfl rfl ?_;refine ZT.mk (fun hz=>?_) ?_
 ·have h0:l=[]:=List.eq_nil_of_length_eq_zero hz;refine Fork.mk (fun _=>?_) (fun q=>absurd (q.symm.trans ((rfl:true=true))) Bool.false_ne_true);exact⟨fun _=>False,id,T.nil,Hz.ay [],.inl ⟨h0,rfl,rfl⟩,aF _,(fun i ob hi=>by cases hi),(fun i j hi=>by cases hi),trivial,(fun i ob hi=>by cases hi),fun i hi=>by cases hi⟩
 ·conv=>whnf
  refine Fork.mk (fun q=>absurd (q.symm.trans ((rfl:false=false))).symm Bool.false_ne_true) (fun _=>?_);refine .mk (by show(0+l.length)*32<=140737488355328/\0+l.length<=1152921504606846976; omega) ?_;exact iP.one (c:=0) (j:=5) (o:=bI l) (t:=.own 0) rfl rfl rfl nofun (.inr rfl) rfl (.eq rfl) (.inr ⟨rfl,rfl⟩)
theorem ah.VU{h:Hz}{n:Nat}{l:List Elem}{f:Bool}{K:V->Hz->Prop}{KW:Nat->V->Hz->Prop}(hn:h.get n=none)(hl:l.length<2^30)
  (h1:l=[]->K (.row 0 true .nil) ((n,none)::h)) (h2:K (.own n) ((n,some (bI l))::h)):ah Tryz.prog false none 92 [.row 3 f (.elems l)] h n K KW:=by
 refine ah.VE [] (S.VU l f hl) rfl rfl rfl rfl rfl trivial hn (by simp) ?_;rintro t hp (⟨a,rfl,rfl⟩|⟨rfl,rfl⟩)
 ·exact⟨.row 0 true .nil,[none],rfl,rfl,⟨rfl,trivial⟩,h1 a⟩
 ·exact⟨.own n,[some (bI l)],rfl,rfl,⟨congrArg some (uT rfl _).symm,trivial⟩,h2⟩
theorem S.Ar(l:List Elem)(hl:l.length<2^29)(hg: ∀ e∈l,BA e):aO Tryz.prog 75 (V.aT [.own 0]) (Hz.ay [(0,some (bI l))]) 1 (fun t hp=>t=(V.row 3 false (.elems (aY l))).aH/\hp=Hz.ay []):=by
 refine aO.ag6 (S.y7 l 1 (by decide) hl hg) ?_;have hs: ∀ o:OV,abp (fun _=>True) (Hz.ay [(1,some o)])=Hz.ay []:=fun o=>by
  funext i;simp only[abp,if_true];rfl
 rintro t hp (⟨rfl,rfl⟩|⟨m,rfl,rfl⟩)
 ·exact⟨fun _=>True,_,KA trivial rfl,rfl,rfl,hs _⟩
 ·exact⟨fun _=>True,_,(ak.acL (m:=m) rfl).ok,rfl,rfl,hs _⟩
theorem ah.Ar{h:Hz}{i n:Nat}{l:List Elem}{K:V->Hz->Prop}{KW:Nat->V->Hz->Prop}(hi:h.get i=some (bI l))(hn:h.get n=none)(hin:i≠n)(hl:l.length<2^29)(hg: ∀ e∈l,BA e)
  (hK:K (.row 3 false (.elems (aY l))) ((i,none)::(n,none)::h)):ah Tryz.prog false none 75 [.own i] h n K KW:=by
 refine ah.VE [i] (S.Ar l hl hg) rfl rfl rfl rfl rfl ⟨⟨_,hi,uT rfl _⟩,trivial⟩ hn (by simp; exact hin) ?_;rintro t hp ⟨rfl,rfl⟩;exact⟨_,[none,none],rfl,SL rfl _,⟨rfl,rfl,trivial⟩,hK⟩
def mF(p:aJ)(b:List Elem)(i:Nat):List Elem:=b++(b.take i).flatMap fun x=>(xY p x).2
def growE(p:aJ)(b:List Elem):Option (List Elem):=bif b.any (fun x=>(xY p x).1 !=0) then none else bif decide (100<(aY (mF p b b.length)).length) then none else some (aY (mF p b b.length))
def rG(p:aJ):Nat->List Elem->Nat->Option (List Elem×Nat×Bool)
 |0,b,k=>match growE p b with
  |none=>none
  |some l=>some (b,k,decide (l=b))
 |f+1,b,k=>match growE p b with
  |none=>none
  |some l=>bif decide (l=b) then some (b,k,true) else rG p f l (k+1)
theorem Au{p:aJ}{f:Nat}{b:List Elem}{k:Nat}(h:growE p b=none):rG p f b k=none:=by
 cases f<;>simp only[rG,h]
theorem MI{p:aJ}{f:Nat}{b:List Elem}{k:Nat}(h:growE p b=some b):rG p f b k=some (b,k,true):=by
 cases f<;>simp only[rG,h,decide_true,cond_true]
theorem OY{p:aJ}{b l:List Elem}{k:Nat}(h:growE p b=some l)(hn:l≠b):rG p 0 b k=some (b,k,false):=by
 simp only[rG,h,decide_eq_false hn]
theorem MJ{p:aJ}{f:Nat}{b l:List Elem}{k:Nat}(h:growE p b=some l)(hn:l≠b):rG p (f+1) b k=rG p f l (k+1):=by
 simp only[rG,h,decide_eq_false hn,cond_false]
theorem TS{p:aJ}{e:Elem}:(xY p e).1=0\/(xY p e).1=4:=by
 unfold xY;cases p.rules.any (fun r=>(uy p r e).1 !=0)
 ·cases decide (100<(aY (ou p e p.rules.length)).length)
  ·exact .inl rfl
  ·exact .inr rfl
 ·exact .inr rfl
theorem MK{p:aJ}{e:Elem}:(xY p e).2.length<=100:=by
 unfold xY;cases p.rules.any (fun r=>(uy p r e).1 !=0)
 ·cases h:decide (100<(aY (ou p e p.rules.length)).length) with
  |false=>have:=of_decide_eq_false h; show(aY _).length<=100; omega
  |true=>exact Nat.zero_le _
 ·exact Nat.zero_le _
theorem abW{p:aJ}{e x:Elem}(hF:Ey p e)(h:x∈(xY p e).2):jU p x=false:=by
 unfold xY at h;cases h1:p.rules.any (fun r=>(uy p r e).1 !=0) with
 |true=>rw[h1] at h; cases h
 |false =>
  rw[h1,cond_false] at h;cases h2:decide (100<(aY (ou p e p.rules.length)).length) with
  |true=>rw[h2] at h; cases h
  |false=>rw[h2,cond_false] at h; exact MG hF (ug h)
theorem ML{p:aJ}{b:List Elem}{i:Nat}(hi:i<b.length):mF p b (i+1)=mF p b i++(xY p (b.getD i default)).2:=by
 unfold mF;rw[List.take_succ_eq_append_getElem hi,List.flatMap_append,getD_some hi,List.append_assoc]; simp
theorem OZ{p:aJ}{b:List Elem}{i:Nat}:(mF p b i).length<=b.length+i*100:=by
 have: ∀ L:List Elem,(L.flatMap fun r=>(xY p r).2).length<=L.length*100:=by
  intro L;induction L with
  |nil=>simp
  |cons c L ih=>rw[List.flatMap_cons,List.length_append,List.length_cons,Nat.succ_mul]; have:=@MK p c; omega
 unfold mF;rw[List.length_append];have h1:=this (b.take i);have h2:(b.take i).length*100<=i*100:=Nat.mul_le_mul_right _ (by rw[List.length_take]; omega);omega
def Jq(p:aJ)(b:List Elem):Prop:= ∀ x∈b,Ey p x
theorem IU{p:aJ}{b:List Elem}{i:Nat}(hb:Jq p b):Jq p (mF p b i):=by
 intro x hx;rcases List.mem_append.1 hx with hx|hx
 ·exact hb x hx
 ·obtain⟨y,hy,hx⟩:=List.mem_flatMap.1 hx;have hF:=hb y (List.mem_of_mem_take hy);exact abT hF (abW hF hx)
theorem O1{p:aJ}{x:Elem}(h:Ey p x):BA x:=by
 have h1:=h.valid.states;have h2:=h.len;exact⟨by omega,fun y hy=>by have:=h.nums y hy; omega⟩
theorem Zd{p:aJ}{b l:List Elem}(hb:Jq p b)(h:growE p b=some l):Jq p l/\l.length<=100:=by
 unfold growE at h;cases h1:b.any (fun x=>(xY p x).1 !=0) with
 |true=>rw[h1] at h; cases h
 |false =>
  rw[h1,cond_false] at h;cases h2:decide (100<(aY (mF p b b.length)).length) with
  |true=>rw[h2] at h; cases h
  |false =>
   rw[h2,cond_false] at h;cases h;exact⟨fun x hx=>IU hb x (ug hx),by have:=of_decide_eq_false h2; omega⟩
def TT(o:Option (List Elem×Nat×Bool)):V:=match o with
 |none=>.eX [.row 3 false (.elems []),.int 0,.bool false,.int 4]
 |some (b,k,d)=>.eX [.row 3 false (.elems b),.int k,.bool d,.int 0]
theorem O4(o:Option (List Elem×Nat×Bool)):(TT o).free=true:=by
 match o with
 |none=>rfl
 |some (b,k,d)=>rfl
theorem ak.TU{h:Hz}{a c:V}{b:Bool}:ak (.eX [.row 3 false (.elems []),a,.bool b,c]) (.eX [.row 0 true .nil,a,.bool b,c]) h:=⟨by
 show T.sub (fun _=>True) h.ay (.eX [.sl 3 false [],a.aH,(V.bool b).aH,c.aH]) (.eX [.sl 0 true [],a.aH,(V.bool b).aH,c.aH]);simp only[T.sub,T.dD]
 exact⟨⟨.inl trivial,.inr trivial,fun h=>by cases h⟩,aF _,aF _,aF _,trivial⟩⟩
def Jr(p:aJ)(q:Prop')(rounds:Int):Option (List Elem×Nat×Bool):=bif decide (100<(jM p q).length) then none else rG p rounds.toNat (jM p q) 0
theorem Xw{p:aJ}{q:Prop'}(hc:dI p q=0):Jq p (jM p q):=by
 obtain⟨_,_,b3,b4⟩:=J8 hc;have hcov:yX p=0:=by unfold yX; rw[show(bD p !=0)=false by simp[b3],b4]; rfl
 intro x hx;refine GZ hcov ?_;unfold jM at hx;rw[show(dI p q !=0)=false by simp[hc],cond_false] at hx;obtain⟨w,hw,h3⟩:=List.mem_flatMap.1 hx;obtain⟨u,_,rfl⟩:=List.mem_map.1 h3;have hw':=List.mem_range.1 hw;unfold jU;have hl:(mD p.states.length u).length=p.states.length:=iC;have hall:(mD p.states.length u).all Bh=true:=by
  rw[List.all_eq_true];intro y hy;have:=FC y hy;cases hk:Bh y with
  |true=>rfl
  |false =>
   have h:=Qu (x:=y);rw[hk] at h;simp only[Bool.not_false,Bool.or_eq_true,decide_eq_true_eq] at h;omega
 show(((((mD p.states.length u).length:Int) !=p.states.length)|| !((mD p.states.length u).all Bh))||decide ((w:Int)<0)||decide ((w:Int)>=max 1 (p.values.length:Int)))=false;rw[hl,hall,decide_eq_false (by omega: ¬ (w:Int)<0),decide_eq_false (by omega: ¬ (w:Int)>=max 1 (p.values.length:Int))];simp
set_option maxHeartbeats 2000000 in
theorem S.pz(p:aJ)(q:Prop')(rounds:Int)(hp:dW p)(hq:jw q)(hc:dI p q=0)(hr:rounds<2^40):aj Tryz.prog 57 [.dat (.fQ p),.dat (.prop q),.int rounds] (TT (Jr p q rounds)):=by
 have hbf:=Xw hc;obtain⟨l1,l2⟩:=BF p q hp;obtain⟨_,b2,b3,_⟩:=J8 hc;have hv:=J5 b3;have v1:=hv.pos; have v2:=hv.states; have v3:=hv.values;have hbad:jM p q=aY (wS q p.states.length (max 1 p.values.length) (4 ^ p.states.length)):=by rw[jM,show(dI p q !=0)=false by simp[hc],bad_law]; rfl
 generalize hres:TT (Jr p q rounds)=res;refine aj.of Bd.pz (by simp) rfl (by rw[<- hres]; exact O4 _) ?_;refine ah.pure (S.jo p q p.states.length (max 1 p.values.length) hp hq rfl v1 v2 rfl (by omega) b2) rfl ?_;conv=>whnf
 rw[<- hbad];by_cases ahb:100<(jM p q).length
 ·have hB:Jr p q rounds=none:=by unfold Jr; rw[decide_eq_true ahb]; rfl
  refine aA.times 1 rfl ?_;refine Fork.mk (fun _=>?_) (fun q=>absurd (q.symm.trans (decide_eq_true (by omega))) Bool.false_ne_true);conv=>whnf
  rw[<- hres,hB];exact ak.TU
 have hB:Jr p q rounds=rG p rounds.toNat (jM p q) 0:=by unfold Jr; rw[decide_eq_false ahb]; rfl
 refine aA.objs 4 [2,3,4] (fun x:Nat×List Elem=>[(11,.int x.1),(10,.row 3 false (.elems x.2))]) (fun _=>[(0,yg p),(1,Hl q)]) (fun x=>x.2.length<=100/\Jq p x.2/\TT (rG p (rounds-(x.1:Int)).toNat x.2 x.1)=res) (fun x=>(rounds-(x.1:Int)).toNat) (0,jM p q) [0,1] rfl (by decide) (fun _=>rfl) ⟨by show(jM p q).length<=100; omega,hbf,by rw[<- hres,hB]; show TT (rG p (rounds-((0:Nat):Int)).toNat _ _)=_; rw[show rounds-((0:Nat):Int)=rounds by omega]⟩ (sR rfl) ⟨dQ rfl rfl,dQ rfl rfl,trivial⟩ ?_;refine⟨(sR rfl),rfl,?_⟩;rintro⟨k,b⟩ ⟨abX,hfit,hR⟩;replace abX:b.length<=100:=abX;replace hfit:Jq p b:=hfit;replace hR:TT (rG p (rounds-(k:Int)).toNat b k)=res:=hR;refine Fork.mk (fun q=>absurd (q.symm.trans (decide_eq_false (show ¬ 100<(b.length:Int) by omega))).symm Bool.false_ne_true) (fun _=>?_);refine ah.VU rfl (show b.length<2^30 by omega) (fun h0=>?_) ?_
 ·replace h0:b=[]:=h0;refine aA.nil 12 35 3 (by rfl) rfl rfl rfl ?_;refine aA.objs 4 [27,28,10,11,2,3,4] (fun i:Nat=>[(29,.int i),(12,.own 2)]) (fun i=>[(0,yg p),(1,Hl q),(2,bI (mF p b i))]) (fun i=>i<=b.length/\(b.take i).any (fun x=>(xY p x).1 !=0)=false) (fun i=>b.length-i) 0 [0,1,13] rfl (by decide) (fun _=>rfl) ⟨Nat.zero_le _,rfl⟩ (sR rfl) ⟨dQ rfl rfl,dQ rfl rfl,⟨rfl,nofun,rfl,rfl,rfl,_,rfl,rfl,rfl,dU.of_eq (by rw[h0]; rfl)⟩,trivial⟩ ?_;refine⟨(sR rfl),rfl,?_⟩;rintro i ⟨hi,hno⟩;have hgl:=OZ (p:=p) (b:=b) (i:=i);refine⟨fun h2=>?_,fun h2=>?_⟩
  ·have hi':i<b.length:=by simpa using h2
   have hmem:b.getD i default∈b:=by rw[getD_some hi']; exact List.getElem_mem hi'
   have hFx:=hfit _ hmem;have hst:=ML (p:=p) hi';have hpl:=@MK p (b.getD i default);have hpe:=@TS p (b.getD i default);refine .mk (by simp only[Rw.rng] at *; omega) ?_;refine ah.pure (S.wK p (b.getD i default) hp hFx) rfl ?_;generalize hQ:xY p (b.getD i default)=Q at hst hpl hpe;refine⟨fun h3=>?_,fun h3=>?_⟩
   ·replace h3:(Q.1 !=0)=true:=h3;have h4:Q.1=4:=by
     rcases hpe with h|h
     ·rw[h] at h3; cases h3
     ·exact h
    have hnone:growE p b=none:=by
     unfold growE;rw[List.any_eq_true.2 ⟨_,hmem,by rw[hQ]; exact h3⟩]; rfl
    conv=>whnf
    rw[<- hR,Au hnone,h4];exact ak.TU
   ·replace h3:(Q.1 !=0)=false:=h3;repeat(refine VC.mk (by first|(show((mF p b i).length+Q.2.length)*32<=140737488355328/\(mF p b i).length+Q.2.length<=1152921504606846976; omega)|(simp only[okI] at *; omega)) ?_)
    refine⟨i+1,[0,1,21],⟨hi',?_⟩,by omega,(sR rfl),(sR rfl),dQ rfl rfl,dQ rfl rfl,⟨rfl,nofun,rfl,rfl,rfl,_,rfl,rfl,rfl,dU.of_eq (by rw[hst])⟩,trivial⟩;rw[List.take_succ_eq_append_getElem hi',List.any_append,hno,Bool.false_or,<- getD_some (d:=default) hi'];show((xY p (b.getD i default)).1 !=0||false)=false;rw[hQ,h3]; rfl
  have hi':i=b.length:=by replace h2:decide ((i:Int)<(b.length:Int))=false:=h2; have:=of_decide_eq_false h2; omega
  subst hi';rw[List.take_length] at hno;have hgr:growE p b=bif decide (100<(aY (mF p b b.length)).length) then none else some (aY (mF p b b.length)):=by unfold growE; rw[hno]; rfl
  have hgf:=IU (i:=b.length) hfit;refine ah.Ar rfl rfl (by decide) (by omega) (fun x hx=>O1 (hgf x hx)) ?_;have hml:=zW (mF p b b.length);have hnf:Jq p (aY (mF p b b.length)):=fun x hx=>hgf x (ug hx)
  generalize hM:aY (mF p b b.length)=M at hgr hml hnf;refine⟨fun h3=>?_,fun h3=>?_⟩
  ·replace h3:decide (100<(M.length:Int))=true:=h3;have:=of_decide_eq_true h3;rw[decide_eq_true (by omega:100<M.length),cond_true] at hgr;conv=>whnf
   rw[<- hR,Au hgr];exact ak.TU
  replace h3:decide (100<(M.length:Int))=false:=h3;have ahc:=of_decide_eq_false h3;rw[decide_eq_false (by omega: ¬ 100<M.length),cond_false] at hgr;refine ah.pure (S.OX M b false false (by omega) (by omega) (fun x hx=>by have:=(hnf x hx).len; have:=(hnf x hx).valid.states; omega) (fun x hx=>by have:=(hfit x hx).len; have:=(hfit x hx).valid.states; omega)) rfl ?_;refine⟨fun h4=>?_,fun h4=>?_⟩
  ·have XZ:M=b:=of_decide_eq_true h4;rw[XZ] at hgr;conv=>whnf
   rw[<- hR,MI hgr];exact ak.eqv rfl
  have XZ:M≠b:=of_decide_eq_false h4;refine⟨fun h5=>?_,fun h5=>?_⟩
  ·have hkr:(rounds-(k:Int)).toNat=0:=by have:=of_decide_eq_true h5; omega
   conv=>whnf
   rw[<- hR,hkr,OY hgr XZ];exact ak.eqv rfl
  ·have hkr:(rounds-(k:Int)).toNat=(rounds-((k+1:Nat):Int)).toNat+1:=by have:=of_decide_eq_false h5; omega
   refine .mk (by simp only[okI] at *; omega) ?_;refine⟨(k+1,M),[0,1],⟨by show M.length<=100; omega,hnf,?_⟩,?_,(sR rfl),(sR rfl),dQ rfl rfl,dQ rfl rfl,trivial⟩
   ·show TT (rG p (rounds-((k+1:Nat):Int)).toNat M (k+1))=res;rw[<- hR,hkr,MJ hgr XZ]
   ·show(rounds-((k+1:Nat):Int)).toNat<(rounds-(k:Int)).toNat;omega
 ·conv=>whnf
  refine aA.objs 4 [27,28,10,11,2,3,4] (fun i:Nat=>[(29,.int i),(12,.own 2)]) (fun i=>[(0,yg p),(1,Hl q),(2,bI (mF p b i))]) (fun i=>i<=b.length/\(b.take i).any (fun x=>(xY p x).1 !=0)=false) (fun i=>b.length-i) 0 [0,1,8] rfl (by decide) (fun _=>rfl) ⟨Nat.zero_le _,rfl⟩ (sR rfl) ⟨dQ rfl rfl,dQ rfl rfl,⟨rfl,nofun,rfl,rfl,rfl,_,rfl,rfl,rfl,dU.of_eq (by unfold mF; simp)⟩,trivial⟩ ?_;refine⟨(sR rfl),rfl,?_⟩;rintro i ⟨hi,hno⟩;have hgl:=OZ (p:=p) (b:=b) (i:=i);refine⟨fun h2=>?_,fun h2=>?_⟩
  ·have hi':i<b.length:=by simpa using h2
   have hmem:b.getD i default∈b:=by rw[getD_some hi']; exact List.getElem_mem hi'
   have hFx:=hfit _ hmem;have hst:=ML (p:=p) hi';have hpl:=@MK p (b.getD i default);have hpe:=@TS p (b.getD i default);refine .mk (by simp only[Rw.rng] at *; omega) ?_;refine ah.pure (S.wK p (b.getD i default) hp hFx) rfl ?_;generalize hQ:xY p (b.getD i default)=Q at hst hpl hpe;refine⟨fun h3=>?_,fun h3=>?_⟩
   ·replace h3:(Q.1 !=0)=true:=h3;have h4:Q.1=4:=by
     rcases hpe with h|h
     ·rw[h] at h3; cases h3
     ·exact h
    have hnone:growE p b=none:=by
     unfold growE;rw[List.any_eq_true.2 ⟨_,hmem,by rw[hQ]; exact h3⟩]; rfl
    conv=>whnf
    rw[<- hR,Au hnone,h4];exact ak.TU
   ·replace h3:(Q.1 !=0)=false:=h3;repeat(refine VC.mk (by first|(show((mF p b i).length+Q.2.length)*32<=140737488355328/\(mF p b i).length+Q.2.length<=1152921504606846976; omega)|(simp only[okI] at *; omega)) ?_)
    refine⟨i+1,[0,1,21],⟨hi',?_⟩,by omega,(sR rfl),(sR rfl),dQ rfl rfl,dQ rfl rfl,⟨rfl,nofun,rfl,rfl,rfl,_,rfl,rfl,rfl,dU.of_eq (by rw[hst])⟩,trivial⟩;rw[List.take_succ_eq_append_getElem hi',List.any_append,hno,Bool.false_or,<- getD_some (d:=default) hi'];show((xY p (b.getD i default)).1 !=0||false)=false;rw[hQ,h3]; rfl
  have hi':i=b.length:=by replace h2:decide ((i:Int)<(b.length:Int))=false:=h2; have:=of_decide_eq_false h2; omega
  subst hi';rw[List.take_length] at hno;have hgr:growE p b=bif decide (100<(aY (mF p b b.length)).length) then none else some (aY (mF p b b.length)):=by unfold growE; rw[hno]; rfl
  have hgf:=IU (i:=b.length) hfit;refine ah.Ar rfl rfl (by decide) (by omega) (fun x hx=>O1 (hgf x hx)) ?_;have hml:=zW (mF p b b.length);have hnf:Jq p (aY (mF p b b.length)):=fun x hx=>hgf x (ug hx)
  generalize hM:aY (mF p b b.length)=M at hgr hml hnf;refine⟨fun h3=>?_,fun h3=>?_⟩
  ·replace h3:decide (100<(M.length:Int))=true:=h3;have:=of_decide_eq_true h3;rw[decide_eq_true (by omega:100<M.length),cond_true] at hgr;conv=>whnf
   rw[<- hR,Au hgr];exact ak.TU
  replace h3:decide (100<(M.length:Int))=false:=h3;have ahc:=of_decide_eq_false h3;rw[decide_eq_false (by omega: ¬ 100<M.length),cond_false] at hgr;refine ah.pure (S.OX M b false false (by omega) (by omega) (fun x hx=>by have:=(hnf x hx).len; have:=(hnf x hx).valid.states; omega) (fun x hx=>by have:=(hfit x hx).len; have:=(hfit x hx).valid.states; omega)) rfl ?_;refine⟨fun h4=>?_,fun h4=>?_⟩
  ·have XZ:M=b:=of_decide_eq_true h4;rw[XZ] at hgr;conv=>whnf
   rw[<- hR,MI hgr];exact ak.eqv rfl
  have XZ:M≠b:=of_decide_eq_false h4;refine⟨fun h5=>?_,fun h5=>?_⟩
  ·have hkr:(rounds-(k:Int)).toNat=0:=by have:=of_decide_eq_true h5; omega
   conv=>whnf
   rw[<- hR,hkr,OY hgr XZ];exact ak.eqv rfl
  ·have hkr:(rounds-(k:Int)).toNat=(rounds-((k+1:Nat):Int)).toNat+1:=by have:=of_decide_eq_false h5; omega
   refine .mk (by simp only[okI] at *; omega) ?_;refine⟨(k+1,M),[0,1],⟨by show M.length<=100; omega,hnf,?_⟩,?_,(sR rfl),(sR rfl),dQ rfl rfl,dQ rfl rfl,trivial⟩
   ·show TT (rG p (rounds-((k+1:Nat):Int)).toNat M (k+1))=res;rw[<- hR,hkr,MJ hgr XZ]
   ·show(rounds-((k+1:Nat):Int)).toNat<(rounds-(k:Int)).toNat;omega
def bkX(p:aJ)(q:Prop')(rounds:Int):Int×List Elem×Bool:=bif dI p q !=0 then(dI p q,[],false) else bif decide (100<rounds) then(1,[],false) else match Jr p q rounds with
 |none=>(4,[],false)
 |some (b,_,d)=>(0,b,d)
def aeg(p:aJ)(q:Prop')(s:Int×Int)(x:Elem):Int×Int:=bif wR p q x&&(s.1==1||decide (dY x<s.2)) then(2,dY x) else s
def Js(p:aJ)(q:Prop')(b:List Elem)(i:Nat):Int×Int:=(b.take i).foldl (aeg p q) (1,0)
theorem Ze{p:aJ}{q:Prop'}{b:List Elem}{i:Nat}(hi:i<b.length):Js p q b (i+1)=aeg p q (Js p q b i) (b.getD i default):=by
 unfold Js;rw[List.take_succ_eq_append_getElem hi,List.foldl_append,getD_some hi]; rfl
def Qv(p:aJ)(q:Prop')(rounds:Int):Int×Int×List Elem×Int×Int:=bif dI p q !=0 then(dI p q,0,[],0,0) else bif decide (100<rounds) then(1,0,[],0,0) else match Jr p q rounds with
 |none=>(4,0,[],0,0)
 |some (b,k,d)=>bif d then(0,(Js p q b b.length).1,b,(Js p q b b.length).2,k) else(0,0,[],0,k)
def ahd(x:Int×Int×List Elem×Int×Int):V:=.eX [.agg [.int x.2.1,.row 3 false (.elems x.2.2.1),.int x.2.2.2.1,.int x.2.2.2.2],.int x.1]
theorem ak.aeh{h:Hz}{a c d e:V}:ak (.eX [.agg [a,.row 3 false (.elems []),c,d],e]) (.eX [.agg [a,.row 0 true .nil,c,d],e]) h:=⟨by
 show T.sub (fun _=>True) h.ay (.eX [.agg [a.aH,.sl 3 false [],c.aH,d.aH],e.aH]) (.eX [.agg [a.aH,.sl 0 true [],c.aH,d.aH],e.aH]);simp only[T.sub,T.dD]
 exact⟨⟨aF _,⟨.inl trivial,.inr trivial,fun h=>by cases h⟩,aF _,aF _,trivial⟩,aF _,trivial⟩⟩
abbrev boxS(a:Int)(b:List Elem)(c d:Int):OV:=.box 56 5 (.agg [.int a,.row 3 false (.elems b),.int c,.int d])
theorem abY{p:aJ}{q:Prop'}{rounds:Int}{b:List Elem}{k:Nat}{d:Bool}(hc:dI p q=0)(h:Jr p q rounds=some (b,k,d)):Jq p b/\b.length<=100:=by
 unfold Jr at h;cases h1:decide (100<(jM p q).length) with
 |true=>rw[h1] at h; cases h
 |false =>
  rw[h1,cond_false] at h
  have: ∀ f b0 k0,Jq p b0->b0.length<=100->rG p f b0 k0=some (b,k,d)->Jq p b/\b.length<=100:=by
   intro f;induction f with
   |zero =>
    intro b0 k0 h1 h2 h3;simp only[rG] at h3;split at h3
    ·cases h3
    ·cases h3; exact⟨h1,h2⟩
   |succ f ih =>
    intro b0 k0 h1 h2 h3;simp only[rG] at h3;split at h3
    ·cases h3
    ·rename_i l hl;obtain⟨g1,g2⟩:=Zd h1 hl;cases he:decide (l=b0) with
     |true=>rw[he] at h3; cases h3; exact⟨h1,h2⟩
     |false=>rw[he] at h3; exact ih l _ g1 g2 h3
  exact this _ _ _ (Xw hc) (by have:=of_decide_eq_false h1; omega) h
set_option maxHeartbeats 1000000 in
theorem S.uV(p:aJ)(q:Prop')(rounds:Int)(hp:dW p)(hq:jw q):aj Tryz.prog 28 [.dat (.fQ p),.dat (.prop q),.int rounds] (ahd (Qv p q rounds)):=by
 generalize hres:ahd (Qv p q rounds)=res;refine aj.of Bd.uV (by simp) rfl (by rw[<- hres]; rfl) ?_;refine ah.pure (S.oP p q hp hq) rfl ?_;refine⟨fun h1=>?_,fun h1=>?_⟩
 ·replace h1:(dI p q !=0)=true:=h1;conv=>whnf
  rw[<- hres,Qv,h1];exact ak.aeh
 replace h1:(dI p q !=0)=false:=h1;refine⟨fun h2=>?_,fun h2=>?_⟩
 ·replace h2:decide (100<rounds)=true:=h2;conv=>whnf
  rw[<- hres,Qv,h1,h2];exact ak.aeh
 replace h2:decide (100<rounds)=false:=h2;have hr:=of_decide_eq_false h2;have hX:Qv p q rounds=match Jr p q rounds with
  |none=>(4,0,[],0,0)
  |some (b,k,d)=>bif d then(0,(Js p q b b.length).1,b,(Js p q b b.length).2,k) else(0,0,[],0,k):=by rw[Qv,h1,h2]; rfl
 refine ah.pure (S.pz p q rounds hp hq (Dn h1) (by omega)) (O4 _) ?_;match hs:Jr p q rounds with
 |none =>
  rw[hs] at hX;refine Fork.mk (fun _=>?_) (fun q=>absurd (q.symm.trans (rfl)) Bool.false_ne_true);conv=>whnf
  rw[<- hres,hX];exact ak.aeh
 |some (b,k,false) =>
  rw[hs] at hX;refine Fork.mk (fun q=>absurd (q.symm.trans (rfl)).symm Bool.false_ne_true) (fun _=>?_);refine Fork.mk (fun _=>?_) (fun q=>absurd (q.symm.trans (rfl)) Bool.false_ne_true);conv=>whnf
  rw[<- hres,hX];exact ak.aeh
 |some (b,k,true) =>
  rw[hs] at hX;obtain⟨hfit,abX⟩:=abY (Dn h1) hs;refine Fork.mk (fun q=>absurd (q.symm.trans (rfl)).symm Bool.false_ne_true) (fun _=>?_);refine Fork.mk (fun q=>absurd (q.symm.trans (rfl)).symm Bool.false_ne_true) (fun _=>?_);refine aA.objs 4 [47,48,3,4,6] (fun i:Nat=>[(49,.int i),(13,.ptr 3 0 0)]) (fun i=>[(0,yg p),(1,Hl q),(2,.box 56 5 (.agg [.int 0,.row 0 true .nil,.int 0,.int 0])),(3,boxS (Js p q b i).1 b (Js p q b i).2 k)]) (fun i=>i<=b.length) (fun i=>b.length-i) 0 [0,1,2,32] rfl (by decide) (fun _=>rfl) (Nat.zero_le _) (sR rfl) ⟨dQ rfl rfl,dQ rfl rfl,dQ rfl rfl,dQ rfl rfl,trivial⟩ ?_;refine⟨(sR rfl),rfl,?_⟩;rintro i hi;refine⟨fun h3=>?_,fun h3=>?_⟩
  ·have hi':i<b.length:=by simpa using h3
   have hst:=Ze (p:=p) (q:=q) hi';have hF:=hfit (b.getD i default) (by rw[getD_some hi']; exact List.getElem_mem hi');have hle:(b.getD i default).counts.length<2^30:=by have:=hF.len; have:=hF.valid.states; omega
   refine .mk (by simp only[Rw.rng] at *; omega) ?_;refine ah.pure (S.oQ (b.getD i default) (by omega)) rfl ?_;refine ah.pure (S.nS p q (b.getD i default) hp hq hle (zS (Dn h1))) rfl ?_;generalize hS:Js p q b i=s at hst;repeat(refine VC.mk (by first|exact id|exact fun h=>⟨h,h⟩|(intro h; simp_all; done)) ?_)
   refine⟨fun h4=>?_,fun h4=>?_⟩
   ·replace h4:(wR p q (b.getD i default)&&(s.1==1||decide (dY (b.getD i default)<s.2)))=true:=h4;have hst':Js p q b (i+1)=(2,dY (b.getD i default)):=by rw[hst,aeg,h4]; rfl
    refine .mk (by simp only[okI] at *; omega) ?_;exact⟨i+1,[0,1,2,3],hi',by omega,(sR rfl),(sR rfl),dQ rfl rfl,dQ rfl rfl,dQ rfl rfl,⟨rfl,nofun,rfl,rfl,rfl,_,rfl,rfl,rfl,dU.of_eq (by rw[hst']; rfl)⟩,trivial⟩
   ·replace h4:(wR p q (b.getD i default)&&(s.1==1||decide (dY (b.getD i default)<s.2)))=false:=h4;have hst':Js p q b (i+1)=s:=by rw[hst,aeg,h4]; rfl
    refine .mk (by simp only[okI] at *; omega) ?_;exact⟨i+1,[0,1,2,3],hi',by omega,(sR rfl),(sR rfl),dQ rfl rfl,dQ rfl rfl,dQ rfl rfl,⟨rfl,nofun,rfl,rfl,rfl,_,rfl,rfl,rfl,dU.of_eq (by rw[hst'])⟩,trivial⟩
  ·have hi':i=b.length:=by have:=of_decide_eq_false h3; omega
   subst hi';conv=>whnf
   rw[<- hres,hX];exact ak.eqv rfl
def IV(name:Str)(fr tt read write:Int):Rule:=⟨name,1,fr,tt,0,0,[],[],[],[],read,write,[],0,[],[],[],0⟩
def uz:aJ:=⟨[109,120],1,[[105],[119],[99]],[],[[102,114,101,101],[104,101,108,100]],0,[],[0],[],[IV [97,115,107] 0 1 (-1) (-1),IV [116,97,107,101] 1 2 0 1,IV [108,101,97,118,101] 2 0 1 0]⟩
def Es:Prop':=⟨[101,120],1,[],[⟨[2],2⟩],[],[]⟩
theorem Aw{name:Str}{fr tt read write:Int}(_h:name.length<2^30):vg (IV name fr tt read write):=by
 constructor<;>simp[IV]
theorem Jf:dW uz:=by
 refine⟨by decide,by decide,by decide,by decide,by decide,by decide,by decide,fun i=>?_,by decide⟩;match i with
 |0=>exact Aw (by decide)
 |1=>exact Aw (by decide)
 |2=>exact Aw (by decide)
 |i+3=>constructor<;>exact(by decide:(0:Nat)<2^30)
def G6:V:=.row 0 true .nil
def Xx(name:Str)(fr tt rd wr:Int):V:=.agg [.str name,.int 1,.int fr,.int tt,.int 0,.int 0,G6,G6,G6,G6,.int rd,.int wr,G6,.int 0,G6,G6,G6,.int 0]
def abZ:V:=.agg [.str uz.name,.int 1,.row 0 false (.strs uz.states),G6,.row 0 false (.strs uz.values),.int 0,G6,.row 0 false (.ints [0]),G6,.Iq 19 false [Xx [97,115,107] 0 1 (-1) (-1),Xx [116,97,107,101] 1 2 0 1,Xx [108,101,97,118,101] 2 0 1 0]]
theorem uX{Z:Nat->Prop}{h:Hp}{k:Nat}{l:List T}:T.sub Z h (.sl k false l) (.sl k true l):=⟨.inl rfl,.inl rfl,fun h=>by cases h⟩
theorem oI{Z:Nat->Prop}{h:Hp}{k:Nat}:T.sub Z h (.sl k false []) T.nil:=⟨.inl rfl,.inr rfl,fun h=>by cases h⟩
theorem aj.weak{P:Program}{f:FuncId}{args:List V}{a b:V}(S:aj P f args a)(hs:T.sub (fun _=>True) no b.aH a.aH)(hb:b.free=true):aj P f args b :=
 BL.shut S (fun _=>hs) (V.oZ b hb)
theorem MN{Z:Nat->Prop}{h:Hp}{name:Str}{fr tt rd wr:Int}:T.sub Z h (Lr (IV name fr tt rd wr)) (Xx name fr tt rd wr).aH:=by
 refine⟨aF _,aF _,aF _,aF _,aF _,aF _,oI,oI,oI,oI,aF _,aF _,oI,aF _,oI,oI,oI,aF _,trivial⟩
theorem Zf:T.sub (fun _=>True) no (WQ uz) abZ.aH:=by
 refine⟨aF _,aF _,aF _,oI,aF _,aF _,oI,aF _,oI,⟨.inr ⟨⟨MN,MN,MN,trivial⟩,fun t ht=>?_⟩,.inl rfl,fun h=>h⟩,trivial⟩;obtain⟨x,_,rfl⟩:=List.mem_map.1 ht; rfl
theorem Xy{Z:Nat->Prop}{h:Hp}{k i ty:Nat}{l:List T}(hz:Z i)(hf:T.bW l=true)(hk:k≠iK)(q:h i=some ⟨ty,k,l⟩):T.sub Z h (.sl k false l) (.own i):=⟨rfl,hz,hf,hk,ty,q⟩
theorem S.MO:aj Tryz.prog 39 [] (.dat (.fQ uz)):=by
 refine aj.weak (a:=abZ) ?_ Zf rfl;refine aj.of Bd.oz (by simp) rfl rfl ?_;refine⟨⟨aF _,aF _,uX,aF _,uX,aF _,aF _,uX,aF _,Xy trivial rfl (by decide) rfl,trivial⟩⟩
def ahe:V:=.agg [.str Es.name,.int 1,G6,.Iq 3 false [.agg [.row 0 true (.ints [2]),.int 2]],G6,G6]
theorem S.Dh:aj Tryz.prog 40 [] (.dat (.prop Es)):=by
 refine aj.weak (a:=ahe) ?_ ?_ rfl
 ·refine aj.of Bd.kN (by simp) rfl rfl ?_;exact⟨⟨aF _,aF _,aF _,Xy trivial rfl (by decide) rfl,aF _,aF _,trivial⟩⟩
 ·refine⟨aF _,aF _,oI,⟨.inr ⟨⟨⟨uX,aF _,trivial⟩,trivial⟩,fun t ht=>?_⟩,.inl rfl,fun h=>h⟩,oI,oI,trivial⟩;obtain⟨x,_,rfl⟩:=List.mem_map.1 ht; rfl
def Nv:List Elem:=[⟨0,[0,0,2]⟩,⟨0,[0,1,1]⟩,⟨0,[1,0,1]⟩,⟨1,[0,0,2]⟩]
theorem MP:jw Es:=by
 refine⟨by decide,by decide,by decide,by decide,fun i=>?_⟩;match i with
 |0=>exact(by decide:(1:Nat)<2^30)
 |i+1=>exact(by decide:(0:Nat)<2^30)
theorem Zg:Qv uz Es 9=(0,1,Nv,0,(Qv uz Es 9).2.2.2.2):=by kernel_rfl
theorem Zh:MH uz Es Nv=true:=by kernel_rfl
theorem E5:yN Nv:=by
 intro x hx;simp only[Nv,List.mem_cons,List.not_mem_nil,or_false] at hx;rcases hx with rfl|rfl|rfl|rfl<;>exact(by decide:(3:Nat)<2^30)
theorem ah.weak{P:Program}{dr:Bool}{f:FuncId}{args args':List V}{res:V}{h:Hz}{n:Nat}{K:V->Hz->Prop}{KW:Nat->V->Hz->Prop}(S:aj P f args' res)(hs:T.dD (fun _=>False) h.ay (V.aT args') (V.aT args))(hr:res.free=true)(hK:K res h):ah P dr none f args h n K KW :=
 ⟨.inl (BL.use S hs ⟨res,h,rfl,rfl,fun _=>⟨rfl,V.oZ res hr⟩,hK⟩)⟩
theorem ah.on{P:Program}{f:FuncId}{args:List V}{h:Hz}{n:Nat}{K:V->Hz->Prop}{KW':Nat->V->Hz->Prop}(H:ah P false none f args h n K fun _ _ _=>False):ah P false (some true) f args h n K KW':=by
 rcases H.ok with H|⟨_,_,k,⟨_,_,_,_,_,_,hk⟩,_⟩|⟨_,e,_⟩
 ·exact⟨.inl (.inr ⟨rfl,fun _=>aO.mono H fun t hp ⟨v,h',a,b,_,c⟩=>⟨v,h',a,b,c⟩,fun e=>by cases e⟩)⟩
 ·exact hk.elim
 ·cases e
set_option maxHeartbeats 1000000 in
theorem S.V6:aj Tryz.prog 11 [] (.bool true):=by
 refine aj.of Bd.E8 (by simp) rfl rfl ?_;refine ah.pure S.MO rfl ?_;refine ah.pure S.Dh rfl ?_;refine ah.pure (S.uV uz Es 9 Jf MP) rfl ?_;rw[Zg];generalize (Qv uz Es 9).2.2.2.2=rd;repeat(refine VC.mk (by first|exact id|exact fun h=>⟨h,h⟩|(intro h; simp only[h,true_and]; done)) ?_)
 have hsame:aj Tryz.prog 24 [.row 3 false (.elems Nv),.row 3 true (.elems Nv)] (.bool true):=by
  have:=S.BJ Nv Nv false true (by decide) (by decide) E5.E E5.E;rwa [decide_eq_true rfl] at this
 refine ah.on (ah.weak hsame ⟨aF _,⟨.inr ⟨⟨⟨aF _,uX,trivial⟩,⟨aF _,uX,trivial⟩,⟨aF _,uX,trivial⟩,⟨aF _,uX,trivial⟩,trivial⟩,fun t ht=>?_⟩,.inl rfl,fun h=>h⟩,trivial⟩ rfl ?_)
 ·obtain⟨x,_,rfl⟩:=List.mem_map.1 ht; rfl
 repeat(refine VC.mk id ?_)
 refine ah.fV (fun _=>S.MO) rfl ?_;refine ah.fV (fun _=>S.Dh) rfl ?_;refine .mk (by intro h; simp_all; done) ?_;conv=>whnf
 have ahR:aj Tryz.prog 14 [.dat (.fQ uz),.dat (.prop Es),.row 3 false (.elems Nv)] (.bool true):=by
  have:=S.jO uz Es Nv false Jf MP (by decide) E5;rwa [Zh] at this
 refine ah.fV (fun _=>ahR) rfl ?_;refine VC.mk id ?_;exact ak.bool rfl
end Go.Proofs.YtkmldgihhaooaaaGreatDoor
