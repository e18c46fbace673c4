/-
 familychecklaw09.FairStarts, as a contract. No condition.
-/
import Derived.Test.YtkomllaebngbfaaGreatDoorAb
import Derived.Test.YtkomllaebngbfaaGreatDoorOb
import Derived.Test.YtkomllaebngbfaaGreatDoorAc
namespace Go.Proofs.YtkomllaebngbfaaGreatDoor
open Go.Ab Go.Proofs
set_option maxRecDepth 100000
theorem VP(p:aN)(q:Prop')(hst:p.states.length<=6):(xX p q).length<2^40:=by
 have h:=Ll (p:=p) (q:=q) (l:=allM 2 p.states.length)
 have h1:=IX (m:=2) (n:=p.states.length)
 have h2:(2+1)^p.states.length<=3^6:=Nat.pow_le_pow_right (by decide) hst
 have h36:3^6=729:=by decide
 unfold xX; omega
theorem PO(p:aN)(q:Prop')(hst:p.states.length<=6):kM (xX p q):=fun e he=>by
 unfold xX initK at he
 obtain⟨c,hc,rfl⟩:=List.mem_map.1 he
 have:=(D6.1 (List.mem_filter.1 hc).1).1
 show c.length<2^40
 omega
theorem S.Lr(l:List Elem)(f g:Bool)(hl:l.length<2^40)(hs:kM l):aj Tryz.prog 28 [.row 3 f (.elems l),.row 3 g (.elems l)] (.bool true):=by
 have:=S.vF l l f g hl hl hs hs
 rwa [decide_eq_true rfl] at this
theorem aep(p:aN)(q:Prop'):(bif wE p q==0 then xX p q else []).length<2^40/\kM (bif wE p q==0 then xX p q else []):=by
 by_cases h:wE p q=0
 ·have hst:=(yY (xU (Fz (acN h))).1).states
  rw[h]; exact⟨VP p q hst,PO p q hst⟩
 ·rw[show(wE p q==0)=false by simpa using h]
  exact⟨by show(0:Nat)<2^40; decide,fun e he=>by cases he⟩
theorem S.jd(p:aN)(q:Prop')(hp:dH p)(hq:qM q):aj Tryz.prog 7 [.dat (.iY p),.dat (.prop q)] (.bool true):=by
 obtain⟨h1,h2⟩:=aep p q
 refine aj.of Bd.jd (by simp) rfl rfl ?_
 conv=>whnf
 refine ah.pure (S.mg p q hp hq) rfl ?_
 conv=>whnf
 refine ah.pure (S.nO p q hp hq) rfl ?_
 conv=>whnf
 refine .mk (by exact fun h=>⟨h,h⟩) ?_
 conv=>whnf
 refine ah.fD (fun _=>S.Lr _ false false h1 h2) rfl ?_
 conv=>whnf
 refine VC.mk id ?_
 conv=>whnf
 refine ah.fD (fun _=>S.fJ) rfl ?_
 conv=>whnf
 refine VC.mk id ?_
 conv=>whnf
 exact ak.bool (by simp)
theorem VQ(l:List Elem):(ug l).length<=l.length:=by
 unfold ug rD
 have:=Hr (qN l) (qN l).length
 rw[FI] at this
 rw[FI]; exact this
theorem FQ{r:Rule}{a:Elem}(h:Ec a):(iF r a).length<2^30:=by
 have h1:=VQ (lT r (mV a.value (iH a.counts)))
 have h2:=Bl (r:=r) (l:=mV a.value (iH a.counts))
 have h3:(mV a.value (iH a.counts)).length<=729:=Nq (uq (Pq a.counts) a.counts.length) (by rw[lZ]; exact h.len)
 unfold iF; omega
theorem FT{r:Rule}{a x:Elem}(hx:x∈iF r a):x.counts.length=a.counts.length:=by
 unfold iF at hx
 exact Ak (n:=a.counts.length) (fun e he=>by rw[(D5 he).2.1,lZ]) ((rM _ _).1 hx)
theorem acP(p:aN)(r:Int)(a:Elem):(Aa p r a).length<2^40/\kM (Aa p r a):=by
 by_cases h:mY p r a=0
 ·obtain⟨hA,_⟩:=y9 h
  rw[Aa,h]
  have h1:=FQ (r:=p.rules.getD r.toNat default) hA
  exact⟨by show(iF (p.rules.getD r.toNat default) a).length<2^40; omega,fun e he=>by rw[FT he]; have:=hA.len; omega⟩
 ·rw[Aa,show(mY p r a==0)=false by simpa using h]
  exact⟨by show(0:Nat)<2^40; decide,fun e he=>by cases he⟩
theorem X3(p:aN)(r:Int)(a:Elem):(mY p r a !=0||Xp p r a==decide (0<((Aa p r a).length:Int)))=true:=by
 by_cases h:mY p r a=0
 ·obtain⟨hA,hpl,_⟩:=y9 h
  rw[Xp,Aa,h]
  simp only[bne_self_eq_false,Bool.false_or,beq_self_eq_true,Bool.true_and,cond_true]
  rw[VN hA hpl]
  exact beq_self_eq_true _
 ·rw[show(mY p r a !=0)=true by simpa using h]; rfl
theorem S.jD(p:aN)(r:Int)(a:Elem)(hp:dH p)(ha:a.counts.length<2^30):aj Tryz.prog 8 [.dat (.iY p),.int r,.dat (.elem a)] (.bool true):=by
 have hs:kM [a]:=fun y hy=>by rw[List.mem_singleton] at hy; subst hy; omega
 obtain⟨ho1,ho2⟩:=acP p r a
 have h3:=X3 p r a
 refine aj.of Bd.jD (by simp) rfl rfl ?_
 conv=>whnf
 refine ah.lend (S.pF [a] false (show 1<2^40 by decide) hs) (And.intro (acG trivial rfl rfl) trivial) rfl rfl ?_
 conv=>whnf
 refine⟨fun h1=>?_,fun h1=>?_⟩
 ·conv=>whnf
  refine ah.pure (S.fJ) rfl ?_
  conv=>whnf
  exact ak.bool rfl
 conv=>whnf
 refine ah.pure (S.kW p r a hp ha) rfl ?_
 conv=>whnf
 refine ah.pure (S.nP p r a hp ha) rfl ?_
 conv=>whnf
 refine ah.pure (S.og p r a hp ha) rfl ?_
 conv=>whnf
 refine ah.pure (S.vC p r a hp ha) rfl ?_
 conv=>whnf
 repeat(refine VC.mk (by first|exact id|exact fun h=>⟨h,h⟩) ?_; conv=>whnf)
 refine ah.fD (fun _=>S.Lr _ false false ho1 ho2) rfl ?_
 clear h1 ho1 ho2 hs
 revert h3
 generalize Xp p r a=u
 generalize mY p r a=c
 generalize Aa p r a=l
 intro h3
 conv=>whnf
 repeat(refine VC.mk (by(cases u<;>cases (c !=0)<;>simp)) ?_; conv=>whnf)
 refine ah.fD (fun _=>S.fJ) rfl ?_
 conv=>whnf
 refine VC.mk id ?_
 conv=>whnf
 refine ak.bool ?_
 simp only[cond_false,beq_self_eq_true,Bool.true_and,Bool.and_true]
 exact h3.symm
theorem S.Gw(a b:Elem)(ha:a.counts.length<2^40)(hb:b.counts.length<2^40):aj Tryz.prog 45 [.dat (.elem a),.dat (.elem b)] (.bool (jh a b==0)):=by
 refine aj.of Bd.vG (by simp) rfl rfl ?_
 conv=>whnf
 refine ah.pure (S.jT a b ha hb) rfl ?_
 conv=>whnf
 exact ak.bool rfl
def Ed(r:Rule)(e:Elem):Elem:=(dV r e).getD ⟨0,[]⟩
def fpB(r:Rule)(x e:Elem):Bool:=(dV r e).isSome&&(jh (jq (Ed r e)) x==0)
theorem Uw{r:Rule}{e:Elem}:(Ed r e).counts.length<=e.counts.length:=by
 unfold Ed
 cases h:dV r e with
 |none=>exact Nat.zero_le _
 |some x=>rw[Option.getD_some,Bo h]; exact Nat.le_refl _
theorem I4(e:Elem):(jq e).counts.length=e.counts.length:=xY _
theorem acQ{r:Rule}{a x:Elem}(h:Ec a)(hx:x∈iF r a):(gU a (dR a.counts a.counts.length)).any (fpB r x)=true:=by
 unfold iF at hx
 rw[rM] at hx
 obtain⟨e,he,y,hy,rfl⟩:=FK hx
 refine List.any_eq_true.2 ⟨e,h.cho.1 he,?_⟩
 unfold fpB Ed
 rw[hy]
 simp only[Option.isSome_some,Option.getD_some,Bool.true_and,beq_iff_eq,lX]
theorem PS{α:Type}{l:List α}{f:α->Bool}{d:α}{i:Nat}(hi:i<l.length):(l.take (i+1)).any f=((l.take i).any f||f (l.getD i d)):=by
 rw[List.take_add_one,List.any_append]; simp[hi]
set_option maxHeartbeats 1000000 in
theorem S.jE(p:aN)(r:Int)(a:Elem)(hp:dH p)(ha:a.counts.length<2^30):aj Tryz.prog 13 [.dat (.iY p),.int r,.dat (.elem a)] (.bool true):=by
 refine aj.of Bd.jE (by simp) rfl rfl ?_
 conv=>whnf
 refine ah.pure (S.og p r a hp ha) rfl ?_
 conv=>whnf
 refine⟨fun h1=>?_,fun h1=>?_⟩
 ·conv=>whnf
  refine ah.pure (S.fJ) rfl ?_
  conv=>whnf
  exact ak.bool rfl
 have h0:mY p r a=0:=by simpa using h1
 obtain⟨hA,hpl,Hu,hc⟩:=y9 h0
 obtain⟨_,hv⟩:=XW h0
 have hsr:=hp.rule r.toNat
 have hpos:Aa p r a=iF (p.rules.getD r.toNat default) a:=by rw[Aa,h0]; rfl
 rw[hpos]
 have hml:=PG hA.len
 have hlen:=hA.len
 have afF:=FQ (r:=p.rules.getD r.toNat default) hA
 conv=>whnf
 refine ah.pure (S.qp a hA.len) rfl ?_
 conv=>whnf
 refine aK.same [1,3,5,7,9] (fun i:Nat=>[(10,.int i)]) (fun i=>i<=(iF (p.rules.getD r.toNat default) a).length) (fun i=>(iF (p.rules.getD r.toNat default) a).length-i) 0 rfl (by decide) rfl (fun _=>rfl) (Nat.zero_le _) ⟨⟨_,rfl,rfl⟩,trivial⟩ ?_
 conv=>whnf
 refine⟨rfl,?_⟩
 rintro i hi
 conv=>whnf
 refine⟨fun h2=>?_,fun h2=>?_⟩
 ·have hi':i<(iF (p.rules.getD r.toNat default) a).length:=by simpa using h2
  have hxm:(iF (p.rules.getD r.toNat default) a).getD i default∈iF (p.rules.getD r.toNat default) a:=kP hi'
  have hxl:=FT hxm
  have hany:=acQ hA hxm
  conv=>whnf
  refine aK.same [1,3,5,7,9,10] (fun j:Nat=>[(12,.int j),(11,.bool (((gU a (dR a.counts a.counts.length)).take j).any (fpB (p.rules.getD r.toNat default) ((iF (p.rules.getD r.toNat default) a).getD i default))))]) (fun j=>j<=(gU a (dR a.counts a.counts.length)).length) (fun j=>(gU a (dR a.counts a.counts.length)).length-j) 0 rfl (by decide) rfl (fun _=>rfl) (Nat.zero_le _) ⟨⟨_,rfl,rfl⟩,⟨_,rfl,rfl⟩,trivial⟩ ?_
  conv=>whnf
  refine⟨rfl,?_⟩
  rintro j hj
  conv=>whnf
  refine⟨fun h3=>?_,fun h3=>?_⟩
  ·have hj':j<(gU a (dR a.counts a.counts.length)).length:=by simpa using h3
   have hem:(gU a (dR a.counts a.counts.length)).getD j default∈gU a (dR a.counts a.counts.length):=kP hj'
   obtain⟨g1,g2⟩:=Ht hA hem
   obtain⟨m1,m2⟩:=VO hc hv hem
   have hstep:=PS (f:=fpB (p.rules.getD r.toNat default) ((iF (p.rules.getD r.toNat default) a).getD i default)) (d:=default) hj'
   have hnl:=Uw (r:=p.rules.getD r.toNat default) (e:=(gU a (dR a.counts a.counts.length)).getD j default)
   conv=>whnf
   refine .mk (by simp only[Rw.rng] at *; first|omega|(simp_all; done)|(simp_all; omega)) ?_
   conv=>whnf
   refine ah.pure (S.jB p a ((gU a (dR a.counts a.counts.length)).getD j default) hp ha (by omega)) rfl ?_
   rw[m1,m2]
   conv=>whnf
   repeat(refine VC.mk (by first|exact id|(intro h; rw[h]; rfl)) ?_; conv=>whnf)
   refine Fork.mk (fun q=>absurd (q.symm.trans ((rfl:((0:Int) !=0|| !true)=false))).symm Bool.false_ne_true) (fun _=>?_)
   conv=>whnf
   repeat(refine VC.mk (by simp only[Rw.rng] at *; first|omega|(simp_all; done)|(simp_all; omega)) ?_; conv=>whnf)
   conv=>whnf
   refine Ai.pure (aj.BZ (S.oU (p.rules.getD r.toNat default) ((gU a (dR a.counts a.counts.length)).getD j default) hsr (by rw[g1]; exact hpl) g2 (by omega))) rfl ?_
   conv=>whnf
   repeat(refine VC.mk (by first|exact id|(intro h; (repeat' apply And.intro)<;>first|exact h|omega|(simp only[Rw.oK]; omega)|(simp only[Rw.rng]; omega))) ?_; conv=>whnf)
   refine ah.fD (fun _=>S.lW (Ed (p.rules.getD r.toNat default) ((gU a (dR a.counts a.counts.length)).getD j default)) (by omega)) rfl ?_
   conv=>whnf
   refine .mk (by exact fun h=>⟨h,h⟩) ?_
   conv=>whnf
   refine ah.fD (fun _=>S.Gw (jq (Ed (p.rules.getD r.toNat default) ((gU a (dR a.counts a.counts.length)).getD j default))) ((iF (p.rules.getD r.toNat default) a).getD i default) (by rw[I4]; omega) (by omega)) rfl ?_
   revert hstep
   generalize ((gU a (dR a.counts a.counts.length)).take j).any (fpB (p.rules.getD r.toNat default) ((iF (p.rules.getD r.toNat default) a).getD i default))=fb
   intro hstep
   conv=>whnf
   repeat(refine VC.mk (by first|((cases fb<;>simp))|(simp only[okI] at *; first|omega|(simp_all; done)|(simp_all; omega))) ?_; conv=>whnf)
   refine⟨j+1,by omega,by omega,⟨⟨_,rfl,rfl⟩,⟨_,rfl,?_⟩,trivial⟩,?_,rfl⟩
   ·rw[hstep]; rfl
   ·repeat' (first|exact trivial|exact⟨_,rfl,rfl⟩|constructor)
  ·have hj':j=(gU a (dR a.counts a.counts.length)).length:=by
    have: ¬ j<(gU a (dR a.counts a.counts.length)).length:=by simpa using h3
    omega
   subst hj'
   rw[List.take_length,hany]
   conv=>whnf
   refine Fork.mk (fun q=>absurd (q.symm.trans ((rfl:(!true)=false))).symm Bool.false_ne_true) (fun _=>?_)
   conv=>whnf
   refine .mk (by simp only[okI] at *; first|omega|(simp_all; done)|(simp_all; omega)) ?_
   conv=>whnf
   refine⟨i+1,by omega,by omega,⟨⟨_,rfl,rfl⟩,trivial⟩,?_,rfl⟩
   repeat' (first|exact trivial|exact⟨_,rfl,rfl⟩|constructor)
 ·conv=>whnf
  refine ah.pure (S.fJ) rfl ?_
  conv=>whnf
  exact ak.bool rfl
set_option maxHeartbeats 1000000 in
theorem S.fP(p:aN)(r:Int)(e:Elem)(hp:dH p)(he:e.counts.length<2^30):aj Tryz.prog 11 [.dat (.iY p),.int r,.dat (.elem e)] (.bool true):=by
 refine aj.of Bd.fP (by simp) rfl rfl ?_
 conv=>whnf
 refine ah.pure (S.kR p hp) rfl ?_
 conv=>whnf
 repeat(refine VC.mk (by first|exact id|exact fun h=>⟨h,h⟩|(intro h; rw[h]; rfl)) ?_; conv=>whnf)
 refine ah.fD (fun _=>S.sO p e hp he) rfl ?_
 conv=>whnf
 repeat(refine VC.mk (by first|exact id|(intro h; rw[h]; rfl)) ?_; conv=>whnf)
 refine ah.fD (fun _=>S.nZ e (by omega)) rfl ?_
 conv=>whnf
 repeat(refine VC.mk (by first|exact id|(intro h; rw[h]; rfl)) ?_; conv=>whnf)
 refine⟨fun h1=>?_,fun h1=>?_⟩
 ·conv=>whnf
  refine ah.pure (S.fJ) rfl ?_
  conv=>whnf
  exact ak.bool rfl
 replace h1:((((((bY p !=0)|| !((bif bY p !=0 then KY else nD p).monadic))||decide (r<0))||decide ((p.rules.length:Int)<=r))|| !!(xP p e))||(oN e==0))=false:=h1
 simp only[Bool.or_eq_false_iff,Bool.not_not] at h1
 obtain⟨⟨⟨⟨⟨q1,q2⟩,q3⟩,q4⟩,q5⟩,q6⟩:=h1
 have hc:zX p=0:=by
  rw[q1] at q2
  simp only[cond_false,Bool.not_eq_false'] at q2
  rw[zX,q1,q2]; rfl
 have Hu:0<=r/\r<p.rules.length:=by
  have:=of_decide_eq_false q3; have:=of_decide_eq_false q4; omega
 have hcon:xQ p e=false:=by unfold xQ; rw[q5,q6]; rfl
 have hru:Ho p r=0:=by
  rw[Ho,hc,show(decide (r<0)||decide (r>=(p.rules.length:Int)))=false by rw[q3]; exact q4]; rfl
 have hst:=(yY (xU (Fz hc)).1).states
 obtain⟨hel,hok⟩:=RF hcon
 obtain⟨r1,r2,_⟩:=abZ hc hru
 have hpl:rG e.counts.length (p.rules.getD r.toNat default):=by rw[hel]; exact(wtR hc r2).place
 have hsr:=hp.rule r.toNat
 have hA:=(PN hst hcon).1
 have hv:=aav hc hst hcon
 have hcl:=I4 e
 have hcE:zY p e=0:=by rw[zY,hc,hcon]; rfl
 have hab:abE p e=jq e:=by rw[abE,hcE]; rfl
 have aaw:mY p r (jq e)=0:=by rw[mY,hru]; exact hv
 have hen:Xp p r (jq e)=(dV (p.rules.getD r.toNat default) e).isSome:=by rw[Xp,aaw,acO hpl hok]; rfl
 have hpo:Aa p r (jq e)=iF (p.rules.getD r.toNat default) (jq e):=by rw[Aa,aaw]; rfl
 have afF:=FQ (r:=p.rules.getD r.toNat default) hA
 have hnl:=Uw (r:=p.rules.getD r.toNat default) (e:=e)
 conv=>whnf
 refine .mk (by simp only[Rw.rng]; omega) ?_
 conv=>whnf
 refine Ai.pure (aj.BZ (S.oU (p.rules.getD r.toNat default) e hsr hpl hok (by omega))) rfl ?_
 conv=>whnf
 refine ah.pure (S.jR p e hp he) rfl ?_
 rw[abV,hab,hcE]
 conv=>whnf
 refine ah.pure (S.kW p r (jq e) hp (by omega)) rfl ?_
 rw[hen,aaw]
 conv=>whnf
 refine ah.pure (S.og p r (jq e) hp (by omega)) rfl ?_
 rw[hpo,aaw]
 conv=>whnf
 repeat(refine VC.mk (by first|exact id|exact fun h=>⟨h,h⟩|(intro h; rw[h]; rfl)) ?_; conv=>whnf)
 refine Fork.mk (fun h2=>absurd h2 (by simp)) (fun _=>?_)
 conv=>whnf
 refine⟨fun h3=>?_,fun h3=>?_⟩
 ·conv=>whnf
  refine ah.pure (S.fJ) rfl ?_
  conv=>whnf
  exact ak.bool rfl
 have hs:(dV (p.rules.getD r.toNat default) e).isSome=true:=by simpa using h3
 obtain⟨y,hy⟩:=Option.isSome_iff_exists.1 hs
 have hmem:=X0 hA hpl hok hy
 have hnx:Ed (p.rules.getD r.toNat default) e=y:=by unfold Ed; rw[hy]; rfl
 have hany:(iF (p.rules.getD r.toNat default) (jq e)).any (fun x=>jh x (jq (Ed (p.rules.getD r.toNat default) e))==0)=true :=
  List.any_eq_true.2 ⟨jq y,hmem,by rw[hnx,beq_iff_eq,lX]⟩
 conv=>whnf
 refine aK.same [9,15] (fun j:Nat=>[(18,.int j),(17,.bool (((iF (p.rules.getD r.toNat default) (jq e)).take j).any (fun x=>jh x (jq (Ed (p.rules.getD r.toNat default) e))==0)))]) (fun j=>j<=(iF (p.rules.getD r.toNat default) (jq e)).length) (fun j=>(iF (p.rules.getD r.toNat default) (jq e)).length-j) 0 rfl (by decide) rfl (fun _=>rfl) (Nat.zero_le _) ⟨⟨_,rfl,rfl⟩,⟨_,rfl,rfl⟩,trivial⟩ ?_
 conv=>whnf
 refine⟨rfl,?_⟩
 rintro j hj
 conv=>whnf
 refine⟨fun h4=>?_,fun h4=>?_⟩
 ·have hj':j<(iF (p.rules.getD r.toNat default) (jq e)).length:=by simpa using h4
  have hxl:=FT (kP (d:=default) hj')
  have hstep:=PS (f:=fun x=>jh x (jq (Ed (p.rules.getD r.toNat default) e))==0) (d:=default) hj'
  conv=>whnf
  repeat(refine VC.mk (by first|exact id|(intro h; (repeat' apply And.intro)<;>first|exact h|omega|(simp only[Rw.oK]; omega)|(simp only[Rw.rng]; omega))) ?_; conv=>whnf)
  refine ah.fD (fun _=>S.lW (Ed (p.rules.getD r.toNat default) e) (by omega)) rfl ?_
  conv=>whnf
  refine .mk (by exact fun h=>⟨h,h⟩) ?_
  conv=>whnf
  refine ah.fD (fun _=>S.Gw ((iF (p.rules.getD r.toNat default) (jq e)).getD j default) (jq (Ed (p.rules.getD r.toNat default) e)) (by omega) (by rw[I4]; omega)) rfl ?_
  revert hstep
  generalize ((iF (p.rules.getD r.toNat default) (jq e)).take j).any (fun x=>jh x (jq (Ed (p.rules.getD r.toNat default) e))==0)=fb
  intro hstep
  conv=>whnf
  repeat(refine VC.mk (by first|((cases fb<;>simp))|(simp only[okI] at *; first|omega|(simp_all; done)|(simp_all; omega))) ?_; conv=>whnf)
  refine⟨j+1,by omega,by omega,⟨⟨_,rfl,rfl⟩,⟨_,rfl,?_⟩,trivial⟩,?_,rfl⟩
  ·rw[hstep]; rfl
  ·repeat' (first|exact trivial|exact⟨_,rfl,rfl⟩|constructor)
 ·have hj':j=(iF (p.rules.getD r.toNat default) (jq e)).length:=by
   have: ¬ j<(iF (p.rules.getD r.toNat default) (jq e)).length:=by simpa using h4
   omega
  subst hj'
  rw[List.take_length,hany]
  conv=>whnf
  refine ah.fD (fun _=>S.fJ) rfl ?_
  conv=>whnf
  refine VC.mk id ?_
  conv=>whnf
  exact ak.bool rfl
end Go.Proofs.YtkomllaebngbfaaGreatDoor
