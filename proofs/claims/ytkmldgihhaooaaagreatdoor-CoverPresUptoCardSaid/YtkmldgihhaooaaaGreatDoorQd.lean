/-
 The backward search: the program's answer. No condition.
-/
import Derived.KernelRfl
import Derived.Test.YtkmldgihhaooaaaGreatDoorQc
namespace Go.Proofs.YtkmldgihhaooaaaGreatDoor
open Go.Ab Go.Proofs
set_option maxRecDepth 100000
theorem S.Tv(a b:Elem)(ha:a.counts.length<2^40)(hb:b.counts.length<2^40):aj Tryz.prog 94 [.dat (.elem a),.dat (.elem b)] (.bool (decide (a=b))):=by
 refine aj.of Bd.sK (by simp) rfl rfl ?_
 refine ah.pure (S.iT a b ha hb) rfl ?_
 refine ak.bool ?_
 rw[Bool.eq_iff_iff]; simp only[decide_eq_true_eq,beq_iff_eq]
 exact jE.symm
theorem adX{a b:List Elem}{i:Nat}(hi:i<a.length)(hb:i<b.length)(h:a.take i=b.take i)(he:a.getD i default=b.getD i default):a.take (i+1)=b.take (i+1):=by
 rw[List.take_succ_eq_append_getElem hi,List.take_succ_eq_append_getElem hb,h,<- getD_some (d:=default) hi,<- getD_some (d:=default) hb,he]
theorem S.OL(a b:List Elem)(f g:Bool)(ha:a.length<2^30)(hb:b.length<2^30)(sa:dK a)(sb:dK b):aj Tryz.prog 93 [.row 3 f (.elems a),.row 3 g (.elems b),.fn 94 []] (.bool (decide (a=b))):=by
 refine aj.of Bd.n93 (by simp) rfl rfl ?_
 refine⟨fun h1=>?_,fun h1=>?_⟩
 ·replace h1:((a.length:Int) !=(b.length:Int))=true:=h1
  refine ak.bool ?_
  rw[decide_eq_false]
  rintro rfl
  simp at h1
 have hl:a.length=b.length:=by
  replace h1:((a.length:Int) !=(b.length:Int))=false:=h1
  have:(a.length:Int)=b.length:=by simpa using h1
  omega
 refine aC.objs 0 [15,16,1,2] (fun i:Nat=>[(17,.int i)]) (fun _=>[]) (fun i=>i<=a.length/\a.take i=b.take i) (fun i=>a.length-i) 0 [] rfl (by decide) (fun _=>rfl) ⟨Nat.zero_le _,rfl⟩ (sR rfl) trivial ?_
 refine⟨(sR rfl),rfl,?_⟩
 rintro i ⟨hi,he⟩
 refine⟨fun h2=>?_,fun h2=>?_⟩
 ·have hi':i<a.length:=by simpa using h2
  have hib:i<b.length:=by omega
  have ea:=sa (a.getD i default) (by rw[getD_some hi']; exact List.getElem_mem hi')
  have eb:=sb (b.getD i default) (by rw[getD_some hib]; exact List.getElem_mem hib)
  repeat(refine VC.mk (by simp only[Rw.rng]; omega) ?_)
  refine ah.pure (S.Tv (a.getD i default) (b.getD i default) ea eb) rfl ?_
  refine⟨fun h3=>?_,fun h3=>?_⟩
  ·replace h3:(!decide (a.getD i default=b.getD i default))=true:=h3
   have h3':a.getD i default≠b.getD i default:=by simpa using h3
   refine ak.bool ?_
   rw[decide_eq_false]
   rintro rfl
   exact h3' rfl
  ·replace h3:(!decide (a.getD i default=b.getD i default))=false:=h3
   have h3':a.getD i default=b.getD i default:=by
    rw[Bool.not_eq_false'] at h3
    exact of_decide_eq_true h3
   refine .mk (by simp only[okI] at *; omega) ?_
   exact⟨i+1,[],⟨hi',adX hi' hib he h3'⟩,by omega,(sR rfl),(sR rfl),trivial⟩
 ·have hi':i=a.length:=by have:=of_decide_eq_false h2; omega
  subst hi'
  rw[List.take_length,hl,List.take_length] at he
  exact ak.bool (by rw[decide_eq_true he])
theorem S.VA(l:List Elem)(f:Bool)(hl:l.length<2^30):aQ Tryz.prog 92 (V.aU [.row 3 f (.elems l)]) (Hz.ay []) 0 (fun t hp=>(l=[]/\t=T.nil/\hp=Hz.ay [])\/(t= .own 0/\hp=Hz.ay [(0,some (bT l))])):=by
 refine oI.of (nx:=0) (h0:=[]) Bd.fP (by simp) ⟨_,_,.inr ⟨rfl,rfl⟩⟩ rfl rfl ?_
 refine ZF.mk (fun hz=>?_) ?_
 ·have h0:l=[]:=List.eq_nil_of_length_eq_zero hz
  refine Fork.mk (fun _=>?_) (fun q=>absurd (q.symm.trans ((rfl:true=true))) Bool.false_ne_true)
  exact⟨fun _=>False,id,T.nil,Hz.ay [],.inl ⟨h0,rfl,rfl⟩,aG _,(fun i ob hi=>by cases hi),(fun i j hi=>by cases hi),trivial,(fun i ob hi=>by cases hi),fun i hi=>by cases hi⟩
 ·conv=>whnf
  refine Fork.mk (fun q=>absurd (q.symm.trans ((rfl:false=false))).symm Bool.false_ne_true) (fun _=>?_)
  refine .mk (by show(0+l.length)*32<=140737488355328/\0+l.length<=1152921504606846976; omega) ?_
  exact iO.one (c:=0) (j:=5) (o:=bT l) (t:=.own 0) rfl rfl rfl nofun (.inr rfl) rfl (.eq rfl) (.inr ⟨rfl,rfl⟩)
theorem ah.VA{h:Hz}{n:Nat}{l:List Elem}{f:Bool}{K:V->Hz->Prop}{KW:Nat->V->Hz->Prop}(hn:h.get n=none)(hl:l.length<2^30)
  (h1:l=[]->K (.row 0 true .nil) ((n,none)::h)) (h2:K (.own n) ((n,some (bT l))::h)):ah Tryz.prog false none 92 [.row 3 f (.elems l)] h n K KW:=by
 refine ah.Vl [] (S.VA l f hl) rfl rfl rfl rfl rfl trivial hn (by simp) ?_
 rintro t hp (⟨a,rfl,rfl⟩|⟨rfl,rfl⟩)
 ·exact⟨.row 0 true .nil,[none],rfl,rfl,⟨rfl,trivial⟩,h1 a⟩
 ·exact⟨.own n,[some (bT l)],rfl,rfl,⟨congrArg some (uN rfl _).symm,trivial⟩,h2⟩
theorem S.Af(l:List Elem)(hl:l.length<2^29)(hg: ∀ e∈l,Ba e):aQ Tryz.prog 75 (V.aU [.own 0]) (Hz.ay [(0,some (bT l))]) 1 (fun t hp=>t=(V.row 3 false (.elems (aX l))).aH/\hp=Hz.ay []):=by
 refine aQ.ag1 (S.yR l 1 (by decide) hl hg) ?_
 have hs: ∀ o:OV,aa7 (fun _=>True) (Hz.ay [(1,some o)])=Hz.ay []:=fun o=>by
  funext i
  simp only[aa7,if_true]
  rfl
 rintro t hp (⟨rfl,rfl⟩|⟨m,rfl,rfl⟩)
 ·exact⟨fun _=>True,_,IY trivial rfl,rfl,rfl,hs _⟩
 ·exact⟨fun _=>True,_,(ak.acv (m:=m) rfl).ok,rfl,rfl,hs _⟩
theorem ah.Af{h:Hz}{i n:Nat}{l:List Elem}{K:V->Hz->Prop}{KW:Nat->V->Hz->Prop}(hi:h.get i=some (bT l))(hn:h.get n=none)(hin:i≠n)(hl:l.length<2^29)(hg: ∀ e∈l,Ba e)
  (hK:K (.row 3 false (.elems (aX l))) ((i,none)::(n,none)::h)):ah Tryz.prog false none 75 [.own i] h n K KW:=by
 refine ah.Vl [i] (S.Af l hl hg) rfl rfl rfl rfl rfl ⟨⟨_,hi,uN rfl _⟩,trivial⟩ hn (by simp; exact hin) ?_
 rintro t hp ⟨rfl,rfl⟩
 exact⟨_,[none,none],rfl,Si rfl _,⟨rfl,rfl,trivial⟩,hK⟩
def lZ(p:aO)(b:List Elem)(i:Nat):List Elem:=b++(b.take i).flatMap fun x=>(sJ p x).2
def growE(p:aO)(b:List Elem):Option (List Elem):=bif b.any (fun x=>(sJ p x).1 !=0) then none else bif decide (100<(aX (lZ p b b.length)).length) then none else some (aX (lZ p b b.length))
def qQ(p:aO):Nat->List Elem->Nat->Option (List Elem×Nat×Bool)
 |0,b,k=>match growE p b with
  |none=>none
  |some l=>some (b,k,decide (l=b))
 |f+1,b,k=>match growE p b with
  |none=>none
  |some l=>bif decide (l=b) then some (b,k,true) else qQ p f l (k+1)
theorem Ag{p:aO}{f:Nat}{b:List Elem}{k:Nat}(h:growE p b=none):qQ p f b k=none:=by
 cases f<;>simp only[qQ,h]
theorem Md{p:aO}{f:Nat}{b:List Elem}{k:Nat}(h:growE p b=some b):qQ p f b k=some (b,k,true):=by
 cases f<;>simp only[qQ,h,decide_true,cond_true]
theorem OM{p:aO}{b l:List Elem}{k:Nat}(h:growE p b=some l)(hn:l≠b):qQ p 0 b k=some (b,k,false):=by
 simp only[qQ,h,decide_eq_false hn]
theorem Me{p:aO}{f:Nat}{b l:List Elem}{k:Nat}(h:growE p b=some l)(hn:l≠b):qQ p (f+1) b k=qQ p f l (k+1):=by
 simp only[qQ,h,decide_eq_false hn,cond_false]
theorem Tz{p:aO}{e:Elem}:(sJ p e).1=0\/(sJ p e).1=4:=by
 unfold sJ
 cases p.rules.any (fun r=>(pU p r e).1 !=0)
 ·cases decide (100<(aX (jw p e p.rules.length)).length)
  ·exact .inl rfl
  ·exact .inr rfl
 ·exact .inr rfl
theorem EZ{p:aO}{e:Elem}:(sJ p e).2.length<=100:=by
 unfold sJ
 cases p.rules.any (fun r=>(pU p r e).1 !=0)
 ·cases h:decide (100<(aX (jw p e p.rules.length)).length) with
  |false=>have:=of_decide_eq_false h; show(aX _).length<=100; omega
  |true=>exact Nat.zero_le _
 ·exact Nat.zero_le _
theorem QA{p:aO}{e x:Elem}(hF:AQ p e)(h:x∈(sJ p e).2):jc p x=false:=by
 unfold sJ at h
 cases h1:p.rules.any (fun r=>(pU p r e).1 !=0) with
 |true=>rw[h1] at h; cases h
 |false =>
  rw[h1,cond_false] at h
  cases h2:decide (100<(aX (jw p e p.rules.length)).length) with
  |true=>rw[h2] at h; cases h
  |false=>rw[h2,cond_false] at h; exact EL hF (tN h)
theorem MB{p:aO}{b:List Elem}{i:Nat}(hi:i<b.length):lZ p b (i+1)=lZ p b i++(sJ p (b.getD i default)).2:=by
 unfold lZ
 rw[List.take_succ_eq_append_getElem hi,List.flatMap_append,getD_some hi,List.append_assoc]; simp
theorem OO{p:aO}{b:List Elem}{i:Nat}:(lZ p b i).length<=b.length+i*100:=by
 have: ∀ L:List Elem,(L.flatMap fun r=>(sJ p r).2).length<=L.length*100:=by
  intro L
  induction L with
  |nil=>simp
  |cons c L ih=>rw[List.flatMap_cons,List.length_append,List.length_cons,Nat.succ_mul]; have:=@EZ p c; omega
 unfold lZ
 rw[List.length_append]
 have h1:=this (b.take i)
 have h2:(b.take i).length*100<=i*100:=Nat.mul_le_mul_right _ (by rw[List.length_take]; omega)
 omega
def Jq(p:aO)(b:List Elem):Prop:= ∀ x∈b,AQ p x
theorem II{p:aO}{b:List Elem}{i:Nat}(hb:Jq p b):Jq p (lZ p b i):=by
 intro x hx
 rcases List.mem_append.1 hx with hx|hx
 ·exact hb x hx
 ·obtain⟨y,hy,hx⟩:=List.mem_flatMap.1 hx
  have hF:=hb y (List.mem_of_mem_take hy)
  exact abC hF (QA hF hx)
theorem OQ{p:aO}{x:Elem}(h:AQ p x):Ba x:=by
 have h1:=h.valid.states
 have h2:=h.len
 exact⟨by omega,fun y hy=>by have:=h.nums y hy; omega⟩
theorem YX{p:aO}{b l:List Elem}(hb:Jq p b)(h:growE p b=some l):Jq p l/\l.length<=100:=by
 unfold growE at h
 cases h1:b.any (fun x=>(sJ p x).1 !=0) with
 |true=>rw[h1] at h; cases h
 |false =>
  rw[h1,cond_false] at h
  cases h2:decide (100<(aX (lZ p b b.length)).length) with
  |true=>rw[h2] at h; cases h
  |false =>
   rw[h2,cond_false] at h
   cases h
   exact⟨fun x hx=>II hb x (tN hx),by have:=of_decide_eq_false h2; omega⟩
def TA(o:Option (List Elem×Nat×Bool)):V:=match o with
 |none=>.dU [.row 3 false (.elems []),.int 0,.bool false,.int 4]
 |some (b,k,d)=>.dU [.row 3 false (.elems b),.int k,.bool d,.int 0]
theorem OT(o:Option (List Elem×Nat×Bool)):(TA o).free=true:=by
 match o with
 |none=>rfl
 |some (b,k,d)=>rfl
theorem ak.TB{h:Hz}{a c:V}{b:Bool}:ak (.dU [.row 3 false (.elems []),a,.bool b,c]) (.dU [.row 0 true .nil,a,.bool b,c]) h:=⟨by
 show T.sub (fun _=>True) h.ay (.dU [.sl 3 false [],a.aH,(V.bool b).aH,c.aH]) (.dU [.sl 0 true [],a.aH,(V.bool b).aH,c.aH])
 simp only[T.sub,T.dH]
 exact⟨⟨.inl trivial,.inr trivial,fun h=>by cases h⟩,aG _,aG _,aG _,trivial⟩⟩
def Jr(p:aO)(q:Prop')(rounds:Int):Option (List Elem×Nat×Bool):=bif decide (100<(kZ p q).length) then none else qQ p rounds.toNat (kZ p q) 0
theorem W9{p:aO}{q:Prop'}(hc:fV p q=0):Jq p (kZ p q):=by
 obtain⟨_,_,b3,b4⟩:=O6 hc
 have hcov:qW p=0:=by unfold qW; rw[show(bn p !=0)=false by simp[b3],b4]; rfl
 intro x hx
 refine xY hcov ?_
 unfold kZ at hx
 rw[show(fV p q !=0)=false by simp[hc],cond_false] at hx
 obtain⟨w,hw,h3⟩:=List.mem_flatMap.1 hx
 obtain⟨u,_,rfl⟩:=List.mem_map.1 h3
 have hw':=List.mem_range.1 hw
 unfold jc
 have hl:(oZ p.states.length u).length=p.states.length:=jD
 have hall:(oZ p.states.length u).all AP=true:=by
  rw[List.all_eq_true]
  intro y hy
  have:=Fh y hy
  cases hk:AP y with
  |true=>rfl
  |false =>
   have h:=Qq (x:=y)
   rw[hk] at h
   simp only[Bool.not_false,Bool.or_eq_true,decide_eq_true_eq] at h
   omega
 show(((((oZ p.states.length u).length:Int) !=p.states.length)|| !((oZ p.states.length u).all AP))||decide ((w:Int)<0)||decide ((w:Int)>=max 1 (p.values.length:Int)))=false
 rw[hl,hall,decide_eq_false (by omega: ¬ (w:Int)<0),decide_eq_false (by omega: ¬ (w:Int)>=max 1 (p.values.length:Int))]
 simp
set_option maxHeartbeats 2000000 in
theorem S.oV(p:aO)(q:Prop')(rounds:Int)(hp:fE p)(hq:uU q)(hc:fV p q=0)(hr:rounds<2^40):aj Tryz.prog 57 [.dat (.iI p),.dat (.prop q),.int rounds] (TA (Jr p q rounds)):=by
 have hbf:=W9 hc
 obtain⟨l1,l2⟩:=IX p q hp
 obtain⟨_,b2,b3,_⟩:=O6 hc
 have hv:=O4 b3
 have v1:=hv.pos; have v2:=hv.states; have v3:=hv.values
 have hbad:kZ p q=aX (wH q p.states.length (max 1 p.values.length) (4 ^ p.states.length)):=by rw[kZ,show(fV p q !=0)=false by simp[hc],bad_law]; rfl
 generalize hres:TA (Jr p q rounds)=res
 refine aj.of Bd.oV (by simp) rfl (by rw[<- hres]; exact OT _) ?_
 refine ah.pure (S.jf p q p.states.length (max 1 p.values.length) hp hq rfl v1 v2 rfl (by omega) b2) rfl ?_
 conv=>whnf
 rw[<- hbad]
 by_cases ag6:100<(kZ p q).length
 ·have hB:Jr p q rounds=none:=by unfold Jr; rw[decide_eq_true ag6]; rfl
  refine aC.times 1 rfl ?_
  refine Fork.mk (fun _=>?_) (fun q=>absurd (q.symm.trans (decide_eq_true (by omega))) Bool.false_ne_true)
  conv=>whnf
  rw[<- hres,hB]
  exact ak.TB
 have hB:Jr p q rounds=qQ p rounds.toNat (kZ p q) 0:=by unfold Jr; rw[decide_eq_false ag6]; rfl
 refine aC.objs 4 [2,3,4] (fun x:Nat×List Elem=>[(11,.int x.1),(10,.row 3 false (.elems x.2))]) (fun _=>[(0,DI p),(1,Qp q)]) (fun x=>x.2.length<=100/\Jq p x.2/\TA (qQ p (rounds-(x.1:Int)).toNat x.2 x.1)=res) (fun x=>(rounds-(x.1:Int)).toNat) (0,kZ p q) [0,1] rfl (by decide) (fun _=>rfl) ⟨by show(kZ p q).length<=100; omega,hbf,by rw[<- hres,hB]; show TA (qQ p (rounds-((0:Nat):Int)).toNat _ _)=_; rw[show rounds-((0:Nat):Int)=rounds by omega]⟩ (sR rfl) ⟨fC rfl rfl,fC rfl rfl,trivial⟩ ?_
 refine⟨(sR rfl),rfl,?_⟩
 rintro⟨k,b⟩ ⟨abH,hfit,hR⟩
 replace abH:b.length<=100:=abH
 replace hfit:Jq p b:=hfit
 replace hR:TA (qQ p (rounds-(k:Int)).toNat b k)=res:=hR
 refine Fork.mk (fun q=>absurd (q.symm.trans (decide_eq_false (show ¬ 100<(b.length:Int) by omega))).symm Bool.false_ne_true) (fun _=>?_)
 refine ah.VA rfl (show b.length<2^30 by omega) (fun h0=>?_) ?_
 ·replace h0:b=[]:=h0
  refine aC.nil 12 35 3 (by rfl) rfl rfl rfl ?_
  refine aC.objs 4 [27,28,10,11,2,3,4] (fun i:Nat=>[(29,.int i),(12,.own 2)]) (fun i=>[(0,DI p),(1,Qp q),(2,bT (lZ p b i))]) (fun i=>i<=b.length/\(b.take i).any (fun x=>(sJ p x).1 !=0)=false) (fun i=>b.length-i) 0 [0,1,13] rfl (by decide) (fun _=>rfl) ⟨Nat.zero_le _,rfl⟩ (sR rfl) ⟨fC rfl rfl,fC rfl rfl,⟨rfl,nofun,rfl,rfl,rfl,_,rfl,rfl,rfl,dR.of_eq (by rw[h0]; rfl)⟩,trivial⟩ ?_
  refine⟨(sR rfl),rfl,?_⟩
  rintro i ⟨hi,hno⟩
  have hgl:=OO (p:=p) (b:=b) (i:=i)
  refine⟨fun h2=>?_,fun h2=>?_⟩
  ·have hi':i<b.length:=by simpa using h2
   have hmem:b.getD i default∈b:=by rw[getD_some hi']; exact List.getElem_mem hi'
   have hFx:=hfit _ hmem
   have hst:=MB (p:=p) hi'
   have hpl:=@EZ p (b.getD i default)
   have hpe:=@Tz p (b.getD i default)
   refine .mk (by simp only[Rw.rng] at *; omega) ?_
   refine ah.pure (S.um p (b.getD i default) hp hFx) rfl ?_
   generalize hQ:sJ p (b.getD i default)=Q at hst hpl hpe
   refine⟨fun h3=>?_,fun h3=>?_⟩
   ·replace h3:(Q.1 !=0)=true:=h3
    have h4:Q.1=4:=by
     rcases hpe with h|h
     ·rw[h] at h3; cases h3
     ·exact h
    have hnone:growE p b=none:=by
     unfold growE
     rw[List.any_eq_true.2 ⟨_,hmem,by rw[hQ]; exact h3⟩]; rfl
    conv=>whnf
    rw[<- hR,Ag hnone,h4]
    exact ak.TB
   ·replace h3:(Q.1 !=0)=false:=h3
    repeat(refine VC.mk (by first|(show((lZ p b i).length+Q.2.length)*32<=140737488355328/\(lZ p b i).length+Q.2.length<=1152921504606846976; omega)|(simp only[okI] at *; omega)) ?_)
    refine⟨i+1,[0,1,21],⟨hi',?_⟩,by omega,(sR rfl),(sR rfl),fC rfl rfl,fC rfl rfl,⟨rfl,nofun,rfl,rfl,rfl,_,rfl,rfl,rfl,dR.of_eq (by rw[hst])⟩,trivial⟩
    rw[List.take_succ_eq_append_getElem hi',List.any_append,hno,Bool.false_or,<- getD_some (d:=default) hi']
    show((sJ p (b.getD i default)).1 !=0||false)=false
    rw[hQ,h3]; rfl
  have hi':i=b.length:=by replace h2:decide ((i:Int)<(b.length:Int))=false:=h2; have:=of_decide_eq_false h2; omega
  subst hi'
  rw[List.take_length] at hno
  have hgr:growE p b=bif decide (100<(aX (lZ p b b.length)).length) then none else some (aX (lZ p b b.length)):=by unfold growE; rw[hno]; rfl
  have hgf:=II (i:=b.length) hfit
  refine ah.Af rfl rfl (by decide) (by omega) (fun x hx=>OQ (hgf x hx)) ?_
  have hml:=zL (lZ p b b.length)
  have hnf:Jq p (aX (lZ p b b.length)):=fun x hx=>hgf x (tN hx)
  generalize hM:aX (lZ p b b.length)=M at hgr hml hnf
  refine⟨fun h3=>?_,fun h3=>?_⟩
  ·replace h3:decide (100<(M.length:Int))=true:=h3
   have:=of_decide_eq_true h3
   rw[decide_eq_true (by omega:100<M.length),cond_true] at hgr
   conv=>whnf
   rw[<- hR,Ag hgr]
   exact ak.TB
  replace h3:decide (100<(M.length:Int))=false:=h3
  have ag7:=of_decide_eq_false h3
  rw[decide_eq_false (by omega: ¬ 100<M.length),cond_false] at hgr
  refine ah.pure (S.OL M b false false (by omega) (by omega) (fun x hx=>by have:=(hnf x hx).len; have:=(hnf x hx).valid.states; omega) (fun x hx=>by have:=(hfit x hx).len; have:=(hfit x hx).valid.states; omega)) rfl ?_
  refine⟨fun h4=>?_,fun h4=>?_⟩
  ·have XD:M=b:=of_decide_eq_true h4
   rw[XD] at hgr
   conv=>whnf
   rw[<- hR,Md hgr]
   exact ak.eqv rfl
  have XD:M≠b:=of_decide_eq_false h4
  refine⟨fun h5=>?_,fun h5=>?_⟩
  ·have hkr:(rounds-(k:Int)).toNat=0:=by have:=of_decide_eq_true h5; omega
   conv=>whnf
   rw[<- hR,hkr,OM hgr XD]
   exact ak.eqv rfl
  ·have hkr:(rounds-(k:Int)).toNat=(rounds-((k+1:Nat):Int)).toNat+1:=by have:=of_decide_eq_false h5; omega
   refine .mk (by simp only[okI] at *; omega) ?_
   refine⟨(k+1,M),[0,1],⟨by show M.length<=100; omega,hnf,?_⟩,?_,(sR rfl),(sR rfl),fC rfl rfl,fC rfl rfl,trivial⟩
   ·show TA (qQ p (rounds-((k+1:Nat):Int)).toNat M (k+1))=res
    rw[<- hR,hkr,Me hgr XD]
   ·show(rounds-((k+1:Nat):Int)).toNat<(rounds-(k:Int)).toNat
    omega
 ·conv=>whnf
  refine aC.objs 4 [27,28,10,11,2,3,4] (fun i:Nat=>[(29,.int i),(12,.own 2)]) (fun i=>[(0,DI p),(1,Qp q),(2,bT (lZ p b i))]) (fun i=>i<=b.length/\(b.take i).any (fun x=>(sJ p x).1 !=0)=false) (fun i=>b.length-i) 0 [0,1,8] rfl (by decide) (fun _=>rfl) ⟨Nat.zero_le _,rfl⟩ (sR rfl) ⟨fC rfl rfl,fC rfl rfl,⟨rfl,nofun,rfl,rfl,rfl,_,rfl,rfl,rfl,dR.of_eq (by unfold lZ; simp)⟩,trivial⟩ ?_
  refine⟨(sR rfl),rfl,?_⟩
  rintro i ⟨hi,hno⟩
  have hgl:=OO (p:=p) (b:=b) (i:=i)
  refine⟨fun h2=>?_,fun h2=>?_⟩
  ·have hi':i<b.length:=by simpa using h2
   have hmem:b.getD i default∈b:=by rw[getD_some hi']; exact List.getElem_mem hi'
   have hFx:=hfit _ hmem
   have hst:=MB (p:=p) hi'
   have hpl:=@EZ p (b.getD i default)
   have hpe:=@Tz p (b.getD i default)
   refine .mk (by simp only[Rw.rng] at *; omega) ?_
   refine ah.pure (S.um p (b.getD i default) hp hFx) rfl ?_
   generalize hQ:sJ p (b.getD i default)=Q at hst hpl hpe
   refine⟨fun h3=>?_,fun h3=>?_⟩
   ·replace h3:(Q.1 !=0)=true:=h3
    have h4:Q.1=4:=by
     rcases hpe with h|h
     ·rw[h] at h3; cases h3
     ·exact h
    have hnone:growE p b=none:=by
     unfold growE
     rw[List.any_eq_true.2 ⟨_,hmem,by rw[hQ]; exact h3⟩]; rfl
    conv=>whnf
    rw[<- hR,Ag hnone,h4]
    exact ak.TB
   ·replace h3:(Q.1 !=0)=false:=h3
    repeat(refine VC.mk (by first|(show((lZ p b i).length+Q.2.length)*32<=140737488355328/\(lZ p b i).length+Q.2.length<=1152921504606846976; omega)|(simp only[okI] at *; omega)) ?_)
    refine⟨i+1,[0,1,21],⟨hi',?_⟩,by omega,(sR rfl),(sR rfl),fC rfl rfl,fC rfl rfl,⟨rfl,nofun,rfl,rfl,rfl,_,rfl,rfl,rfl,dR.of_eq (by rw[hst])⟩,trivial⟩
    rw[List.take_succ_eq_append_getElem hi',List.any_append,hno,Bool.false_or,<- getD_some (d:=default) hi']
    show((sJ p (b.getD i default)).1 !=0||false)=false
    rw[hQ,h3]; rfl
  have hi':i=b.length:=by replace h2:decide ((i:Int)<(b.length:Int))=false:=h2; have:=of_decide_eq_false h2; omega
  subst hi'
  rw[List.take_length] at hno
  have hgr:growE p b=bif decide (100<(aX (lZ p b b.length)).length) then none else some (aX (lZ p b b.length)):=by unfold growE; rw[hno]; rfl
  have hgf:=II (i:=b.length) hfit
  refine ah.Af rfl rfl (by decide) (by omega) (fun x hx=>OQ (hgf x hx)) ?_
  have hml:=zL (lZ p b b.length)
  have hnf:Jq p (aX (lZ p b b.length)):=fun x hx=>hgf x (tN hx)
  generalize hM:aX (lZ p b b.length)=M at hgr hml hnf
  refine⟨fun h3=>?_,fun h3=>?_⟩
  ·replace h3:decide (100<(M.length:Int))=true:=h3
   have:=of_decide_eq_true h3
   rw[decide_eq_true (by omega:100<M.length),cond_true] at hgr
   conv=>whnf
   rw[<- hR,Ag hgr]
   exact ak.TB
  replace h3:decide (100<(M.length:Int))=false:=h3
  have ag7:=of_decide_eq_false h3
  rw[decide_eq_false (by omega: ¬ 100<M.length),cond_false] at hgr
  refine ah.pure (S.OL M b false false (by omega) (by omega) (fun x hx=>by have:=(hnf x hx).len; have:=(hnf x hx).valid.states; omega) (fun x hx=>by have:=(hfit x hx).len; have:=(hfit x hx).valid.states; omega)) rfl ?_
  refine⟨fun h4=>?_,fun h4=>?_⟩
  ·have XD:M=b:=of_decide_eq_true h4
   rw[XD] at hgr
   conv=>whnf
   rw[<- hR,Md hgr]
   exact ak.eqv rfl
  have XD:M≠b:=of_decide_eq_false h4
  refine⟨fun h5=>?_,fun h5=>?_⟩
  ·have hkr:(rounds-(k:Int)).toNat=0:=by have:=of_decide_eq_true h5; omega
   conv=>whnf
   rw[<- hR,hkr,OM hgr XD]
   exact ak.eqv rfl
  ·have hkr:(rounds-(k:Int)).toNat=(rounds-((k+1:Nat):Int)).toNat+1:=by have:=of_decide_eq_false h5; omega
   refine .mk (by simp only[okI] at *; omega) ?_
   refine⟨(k+1,M),[0,1],⟨by show M.length<=100; omega,hnf,?_⟩,?_,(sR rfl),(sR rfl),fC rfl rfl,fC rfl rfl,trivial⟩
   ·show TA (qQ p (rounds-((k+1:Nat):Int)).toNat M (k+1))=res
    rw[<- hR,hkr,Me hgr XD]
   ·show(rounds-((k+1:Nat):Int)).toNat<(rounds-(k:Int)).toNat
    omega
def bkX(p:aO)(q:Prop')(rounds:Int):Int×List Elem×Bool:=bif fV p q !=0 then(fV p q,[],false) else bif decide (100<rounds) then(1,[],false) else match Jr p q rounds with
 |none=>(4,[],false)
 |some (b,_,d)=>(0,b,d)
def adY(p:aO)(q:Prop')(s:Int×Int)(x:Elem):Int×Int:=bif Fg p q x&&(s.1==1||decide (dV x<s.2)) then(2,dV x) else s
def Js(p:aO)(q:Prop')(b:List Elem)(i:Nat):Int×Int:=(b.take i).foldl (adY p q) (1,0)
theorem YZ{p:aO}{q:Prop'}{b:List Elem}{i:Nat}(hi:i<b.length):Js p q b (i+1)=adY p q (Js p q b i) (b.getD i default):=by
 unfold Js
 rw[List.take_succ_eq_append_getElem hi,List.foldl_append,getD_some hi]; rfl
def Qr(p:aO)(q:Prop')(rounds:Int):Int×Int×List Elem×Int×Int:=bif fV p q !=0 then(fV p q,0,[],0,0) else bif decide (100<rounds) then(1,0,[],0,0) else match Jr p q rounds with
 |none=>(4,0,[],0,0)
 |some (b,k,d)=>bif d then(0,(Js p q b b.length).1,b,(Js p q b b.length).2,k) else(0,0,[],0,k)
def ag8(x:Int×Int×List Elem×Int×Int):V:=.dU [.agg [.int x.2.1,.row 3 false (.elems x.2.2.1),.int x.2.2.2.1,.int x.2.2.2.2],.int x.1]
theorem ak.ad1{h:Hz}{a c d e:V}:ak (.dU [.agg [a,.row 3 false (.elems []),c,d],e]) (.dU [.agg [a,.row 0 true .nil,c,d],e]) h:=⟨by
 show T.sub (fun _=>True) h.ay (.dU [.agg [a.aH,.sl 3 false [],c.aH,d.aH],e.aH]) (.dU [.agg [a.aH,.sl 0 true [],c.aH,d.aH],e.aH])
 simp only[T.sub,T.dH]
 exact⟨⟨aG _,⟨.inl trivial,.inr trivial,fun h=>by cases h⟩,aG _,aG _,trivial⟩,aG _,trivial⟩⟩
abbrev boxS(a:Int)(b:List Elem)(c d:Int):OV:=.box 56 5 (.agg [.int a,.row 3 false (.elems b),.int c,.int d])
theorem abI{p:aO}{q:Prop'}{rounds:Int}{b:List Elem}{k:Nat}{d:Bool}(hc:fV p q=0)(h:Jr p q rounds=some (b,k,d)):Jq p b/\b.length<=100:=by
 unfold Jr at h
 cases h1:decide (100<(kZ p q).length) with
 |true=>rw[h1] at h; cases h
 |false =>
  rw[h1,cond_false] at h
  have: ∀ f b0 k0,Jq p b0->b0.length<=100->qQ p f b0 k0=some (b,k,d)->Jq p b/\b.length<=100:=by
   intro f
   induction f with
   |zero =>
    intro b0 k0 h1 h2 h3
    simp only[qQ] at h3
    split at h3
    ·cases h3
    ·cases h3; exact⟨h1,h2⟩
   |succ f ih =>
    intro b0 k0 h1 h2 h3
    simp only[qQ] at h3
    split at h3
    ·cases h3
    ·rename_i l hl
     obtain⟨g1,g2⟩:=YX h1 hl
     cases he:decide (l=b0) with
     |true=>rw[he] at h3; cases h3; exact⟨h1,h2⟩
     |false=>rw[he] at h3; exact ih l _ g1 g2 h3
  exact this _ _ _ (W9 hc) (by have:=of_decide_eq_false h1; omega) h
set_option maxHeartbeats 1000000 in
theorem S.uP(p:aO)(q:Prop')(rounds:Int)(hp:fE p)(hq:uU q):aj Tryz.prog 28 [.dat (.iI p),.dat (.prop q),.int rounds] (ag8 (Qr p q rounds)):=by
 generalize hres:ag8 (Qr p q rounds)=res
 refine aj.of Bd.uP (by simp) rfl (by rw[<- hres]; rfl) ?_
 refine ah.pure (S.oG p q hp hq) rfl ?_
 refine⟨fun h1=>?_,fun h1=>?_⟩
 ·replace h1:(fV p q !=0)=true:=h1
  conv=>whnf
  rw[<- hres,Qr,h1]
  exact ak.ad1
 replace h1:(fV p q !=0)=false:=h1
 refine⟨fun h2=>?_,fun h2=>?_⟩
 ·replace h2:decide (100<rounds)=true:=h2
  conv=>whnf
  rw[<- hres,Qr,h1,h2]
  exact ak.ad1
 replace h2:decide (100<rounds)=false:=h2
 have hr:=of_decide_eq_false h2
 have hX:Qr p q rounds=match Jr p q rounds with
  |none=>(4,0,[],0,0)
  |some (b,k,d)=>bif d then(0,(Js p q b b.length).1,b,(Js p q b b.length).2,k) else(0,0,[],0,k):=by rw[Qr,h1,h2]; rfl
 refine ah.pure (S.oV p q rounds hp hq (DJ h1) (by omega)) (OT _) ?_
 match hs:Jr p q rounds with
 |none =>
  rw[hs] at hX
  refine Fork.mk (fun _=>?_) (fun q=>absurd (q.symm.trans (rfl)) Bool.false_ne_true)
  conv=>whnf
  rw[<- hres,hX]
  exact ak.ad1
 |some (b,k,false) =>
  rw[hs] at hX
  refine Fork.mk (fun q=>absurd (q.symm.trans (rfl)).symm Bool.false_ne_true) (fun _=>?_)
  refine Fork.mk (fun _=>?_) (fun q=>absurd (q.symm.trans (rfl)) Bool.false_ne_true)
  conv=>whnf
  rw[<- hres,hX]
  exact ak.ad1
 |some (b,k,true) =>
  rw[hs] at hX
  obtain⟨hfit,abH⟩:=abI (DJ h1) hs
  refine Fork.mk (fun q=>absurd (q.symm.trans (rfl)).symm Bool.false_ne_true) (fun _=>?_)
  refine Fork.mk (fun q=>absurd (q.symm.trans (rfl)).symm Bool.false_ne_true) (fun _=>?_)
  refine aC.objs 4 [47,48,3,4,6] (fun i:Nat=>[(49,.int i),(13,.ptr 3 0 0)]) (fun i=>[(0,DI p),(1,Qp q),(2,.box 56 5 (.agg [.int 0,.row 0 true .nil,.int 0,.int 0])),(3,boxS (Js p q b i).1 b (Js p q b i).2 k)]) (fun i=>i<=b.length) (fun i=>b.length-i) 0 [0,1,2,32] rfl (by decide) (fun _=>rfl) (Nat.zero_le _) (sR rfl) ⟨fC rfl rfl,fC rfl rfl,fC rfl rfl,fC rfl rfl,trivial⟩ ?_
  refine⟨(sR rfl),rfl,?_⟩
  rintro i hi
  refine⟨fun h3=>?_,fun h3=>?_⟩
  ·have hi':i<b.length:=by simpa using h3
   have hst:=YZ (p:=p) (q:=q) hi'
   have hF:=hfit (b.getD i default) (by rw[getD_some hi']; exact List.getElem_mem hi')
   have hle:(b.getD i default).counts.length<2^30:=by have:=hF.len; have:=hF.valid.states; omega
   refine .mk (by simp only[Rw.rng] at *; omega) ?_
   refine ah.pure (S.oH (b.getD i default) (by omega)) rfl ?_
   refine ah.pure (S.nM p q (b.getD i default) hp hq hle (Ea (DJ h1))) rfl ?_
   generalize hS:Js p q b i=s at hst
   repeat(refine VC.mk (by first|exact id|exact fun h=>⟨h,h⟩|(intro h; simp_all; done)) ?_)
   refine⟨fun h4=>?_,fun h4=>?_⟩
   ·replace h4:(Fg p q (b.getD i default)&&(s.1==1||decide (dV (b.getD i default)<s.2)))=true:=h4
    have hst':Js p q b (i+1)=(2,dV (b.getD i default)):=by rw[hst,adY,h4]; rfl
    refine .mk (by simp only[okI] at *; omega) ?_
    exact⟨i+1,[0,1,2,3],hi',by omega,(sR rfl),(sR rfl),fC rfl rfl,fC rfl rfl,fC rfl rfl,⟨rfl,nofun,rfl,rfl,rfl,_,rfl,rfl,rfl,dR.of_eq (by rw[hst']; rfl)⟩,trivial⟩
   ·replace h4:(Fg p q (b.getD i default)&&(s.1==1||decide (dV (b.getD i default)<s.2)))=false:=h4
    have hst':Js p q b (i+1)=s:=by rw[hst,adY,h4]; rfl
    refine .mk (by simp only[okI] at *; omega) ?_
    exact⟨i+1,[0,1,2,3],hi',by omega,(sR rfl),(sR rfl),fC rfl rfl,fC rfl rfl,fC rfl rfl,⟨rfl,nofun,rfl,rfl,rfl,_,rfl,rfl,rfl,dR.of_eq (by rw[hst'])⟩,trivial⟩
  ·have hi':i=b.length:=by have:=of_decide_eq_false h3; omega
   subst hi'
   conv=>whnf
   rw[<- hres,hX]
   exact ak.eqv rfl
def IJ(name:Str)(fr tt read write:Int):Rule:=⟨name,1,fr,tt,0,0,[],[],[],[],read,write,[],0,[],[],[],0⟩
def uo:aO:=⟨[109,120],1,[[105],[119],[99]],[],[[102,114,101,101],[104,101,108,100]],0,[],[0],[],[IJ [97,115,107] 0 1 (-1) (-1),IJ [116,97,107,101] 1 2 0 1,IJ [108,101,97,118,101] 2 0 1 0]⟩
def D6:Prop':=⟨[101,120],1,[],[⟨[2],2⟩],[],[]⟩
theorem Ah{name:Str}{fr tt read write:Int}(_h:name.length<2^30):uT (IJ name fr tt read write):=by
 constructor<;>simp[IJ]
theorem Jj:fE uo:=by
 refine⟨by decide,by decide,by decide,by decide,by decide,by decide,by decide,fun i=>?_,by decide⟩
 match i with
 |0=>exact Ah (by decide)
 |1=>exact Ah (by decide)
 |2=>exact Ah (by decide)
 |i+3=>constructor<;>exact(by decide:(0:Nat)<2^30)
def GN:V:=.row 0 true .nil
def Xa(name:Str)(fr tt rd wr:Int):V:=.agg [.str name,.int 1,.int fr,.int tt,.int 0,.int 0,GN,GN,GN,GN,.int rd,.int wr,GN,.int 0,GN,GN,GN,.int 0]
def abJ:V:=.agg [.str uo.name,.int 1,.row 0 false (.strs uo.states),GN,.row 0 false (.strs uo.values),.int 0,GN,.row 0 false (.ints [0]),GN,.Ii 19 false [Xa [97,115,107] 0 1 (-1) (-1),Xa [116,97,107,101] 1 2 0 1,Xa [108,101,97,118,101] 2 0 1 0]]
theorem uQ{Z:Nat->Prop}{h:Hp}{k:Nat}{l:List T}:T.sub Z h (.sl k false l) (.sl k true l):=⟨.inl rfl,.inl rfl,fun h=>by cases h⟩
theorem ou{Z:Nat->Prop}{h:Hp}{k:Nat}:T.sub Z h (.sl k false []) T.nil:=⟨.inl rfl,.inr rfl,fun h=>by cases h⟩
theorem aj.weak{P:Program}{f:FuncId}{args:List V}{a b:V}(S:aj P f args a)(hs:T.sub (fun _=>True) no b.aH a.aH)(hb:b.free=true):aj P f args b :=
 Bj.shut S (fun _=>hs) (V.oL b hb)
theorem MC{Z:Nat->Prop}{h:Hp}{name:Str}{fr tt rd wr:Int}:T.sub Z h (Lj (IJ name fr tt rd wr)) (Xa name fr tt rd wr).aH:=by
 refine⟨aG _,aG _,aG _,aG _,aG _,aG _,ou,ou,ou,ou,aG _,aG _,ou,aG _,ou,ou,ou,aG _,trivial⟩
theorem Y0:T.sub (fun _=>True) no (aaE uo) abJ.aH:=by
 refine⟨aG _,aG _,aG _,ou,aG _,aG _,ou,aG _,ou,⟨.inr ⟨⟨MC,MC,MC,trivial⟩,fun t ht=>?_⟩,.inl rfl,fun h=>h⟩,trivial⟩
 obtain⟨x,_,rfl⟩:=List.mem_map.1 ht; rfl
theorem Xb{Z:Nat->Prop}{h:Hp}{k i ty:Nat}{l:List T}(hz:Z i)(hf:T.bZ l=true)(hk:k≠fQ)(q:h i=some ⟨ty,k,l⟩):T.sub Z h (.sl k false l) (.own i):=⟨rfl,hz,hf,hk,ty,q⟩
theorem S.MF:aj Tryz.prog 39 [] (.dat (.iI uo)):=by
 refine aj.weak (a:=abJ) ?_ Y0 rfl
 refine aj.of Bd.nX (by simp) rfl rfl ?_
 refine⟨⟨aG _,aG _,uQ,aG _,uQ,aG _,aG _,uQ,aG _,Xb trivial rfl (by decide) rfl,trivial⟩⟩
def ag9:V:=.agg [.str D6.name,.int 1,GN,.Ii 3 false [.agg [.row 0 true (.ints [2]),.int 2]],GN,GN]
theorem S.CO:aj Tryz.prog 40 [] (.dat (.prop D6)):=by
 refine aj.weak (a:=ag9) ?_ ?_ rfl
 ·refine aj.of Bd.kM (by simp) rfl rfl ?_
  exact⟨⟨aG _,aG _,aG _,Xb trivial rfl (by decide) rfl,aG _,aG _,trivial⟩⟩
 ·refine⟨aG _,aG _,ou,⟨.inr ⟨⟨⟨uQ,aG _,trivial⟩,trivial⟩,fun t ht=>?_⟩,.inl rfl,fun h=>h⟩,ou,ou,trivial⟩
  obtain⟨x,_,rfl⟩:=List.mem_map.1 ht; rfl
def Np:List Elem:=[⟨0,[0,0,2]⟩,⟨0,[0,1,1]⟩,⟨0,[1,0,1]⟩,⟨1,[0,0,2]⟩]
theorem MG:uU D6:=by
 refine⟨by decide,by decide,by decide,by decide,fun i=>?_⟩
 match i with
 |0=>exact(by decide:(1:Nat)<2^30)
 |i+1=>exact(by decide:(0:Nat)<2^30)
theorem Y3:Qr uo D6 9=(0,1,Np,0,(Qr uo D6 9).2.2.2.2):=by kernel_rfl
theorem Y4:YW uo D6 Np=true:=by kernel_rfl
theorem EN:EM Np:=by
 intro x hx
 simp only[Np,List.mem_cons,List.not_mem_nil,or_false] at hx
 rcases hx with rfl|rfl|rfl|rfl<;>exact(by decide:(3:Nat)<2^30)
theorem ah.weak{P:Program}{dr:Bool}{f:FuncId}{args args':List V}{res:V}{h:Hz}{n:Nat}{K:V->Hz->Prop}{KW:Nat->V->Hz->Prop}(S:aj P f args' res)(hs:T.dH (fun _=>False) h.ay (V.aU args') (V.aU args))(hr:res.free=true)(hK:K res h):ah P dr none f args h n K KW :=
 ⟨.inl (Bj.use S hs ⟨res,h,rfl,rfl,fun _=>⟨rfl,V.oL res hr⟩,hK⟩)⟩
theorem ah.on{P:Program}{f:FuncId}{args:List V}{h:Hz}{n:Nat}{K:V->Hz->Prop}{KW':Nat->V->Hz->Prop}(H:ah P false none f args h n K fun _ _ _=>False):ah P false (some true) f args h n K KW':=by
 rcases H.ok with H|⟨_,_,k,⟨_,_,_,_,_,_,hk⟩,_⟩|⟨_,e,_⟩
 ·exact⟨.inl (.inr ⟨rfl,fun _=>aQ.mono H fun t hp ⟨v,h',a,b,_,c⟩=>⟨v,h',a,b,c⟩,fun e=>by cases e⟩)⟩
 ·exact hk.elim
 ·cases e
set_option maxHeartbeats 1000000 in
theorem S.Zx:aj Tryz.prog 11 [] (.bool true):=by
 refine aj.of Bd.EO (by simp) rfl rfl ?_
 refine ah.pure S.MF rfl ?_
 refine ah.pure S.CO rfl ?_
 refine ah.pure (S.uP uo D6 9 Jj MG) rfl ?_
 rw[Y3]
 generalize (Qr uo D6 9).2.2.2.2=rd
 repeat(refine VC.mk (by first|exact id|exact fun h=>⟨h,h⟩|(intro h; simp only[h,true_and]; done)) ?_)
 have hsame:aj Tryz.prog 24 [.row 3 false (.elems Np),.row 3 true (.elems Np)] (.bool true):=by
  have:=S.wB Np Np false true (by decide) (by decide) EN.E EN.E
  rwa [decide_eq_true rfl] at this
 refine ah.on (ah.weak hsame ⟨aG _,⟨.inr ⟨⟨⟨aG _,uQ,trivial⟩,⟨aG _,uQ,trivial⟩,⟨aG _,uQ,trivial⟩,⟨aG _,uQ,trivial⟩,trivial⟩,fun t ht=>?_⟩,.inl rfl,fun h=>h⟩,trivial⟩ rfl ?_)
 ·obtain⟨x,_,rfl⟩:=List.mem_map.1 ht; rfl
 repeat(refine VC.mk id ?_)
 refine ah.ig (fun _=>S.MF) rfl ?_
 refine ah.ig (fun _=>S.CO) rfl ?_
 refine .mk (by intro h; simp_all; done) ?_
 conv=>whnf
 have ahO:aj Tryz.prog 14 [.dat (.iI uo),.dat (.prop D6),.row 3 false (.elems Np)] (.bool true):=by
  have:=S.lV uo D6 Np false Jj MG (by decide) EN
  rwa [Y4] at this
 refine ah.ig (fun _=>ahO) rfl ?_
 refine VC.mk id ?_
 exact ak.bool rfl
end Go.Proofs.YtkmldgihhaooaaaGreatDoor
