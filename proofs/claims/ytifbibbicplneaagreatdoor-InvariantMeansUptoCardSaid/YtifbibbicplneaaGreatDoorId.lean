/-
 A part of the proof. No condition.
-/
import Derived.Test.YtifbibbicplneaaGreatDoorIc
namespace Go.Proofs.YtifbibbicplneaaGreatDoor
open Go.Ab Go.Proofs
set_option maxRecDepth 100000
theorem RG{α:Type}{l:List α}{p:α->Bool}{i:Nat}{d:α}(h:(l.take i).all (fun x=> !p x)=true)(hi:i<l.length)(hp:p (l.getD i d)=true):l.findIdx p=i:=by
 induction i generalizing l with
 |zero =>
  cases l with
  |nil=>simp at hi
  |cons x r=>rw[List.findIdx_cons,show p x=true from hp]; rfl
 |succ i ih =>
  cases l with
  |nil=>simp at hi
  |cons x r =>
   simp only[List.take_succ_cons,List.all_cons,Bool.and_eq_true,Bool.not_eq_true'] at h
   rw[List.findIdx_cons,h.1]
   simp only[cond_false]
   rw[ih h.2 (by simpa using hi) (by simpa using hp)]
theorem MR{α:Type}{l:List α}{p:α->Bool}(h:l.all (fun x=> !p x)=true):l.findIdx p=l.length:=by
 have:=OG (l:=l) (p:=p)
 rw[h] at this; exact beq_iff_eq.1 this
theorem VD{st:List Int}{l:List Clause}{es:List Elem}:wL l (dL st es)=l.findIdx fun k=>es.any fun e=>jm st e&& !holdsB k e:=by
 unfold wL dL
 congr 1
 funext k
 rw[List.any_filter]
theorem S.tH(p:aP)(q:Prop')(l:List Clause)(es:List Elem)(n vs:Nat)(f g:Bool)(hp:bH p)(hq:kC q)(hv:jv p q=0)(hl:jq n vs l)(DY:n<=6)(hvs:vs<=3)(he: ∀ e∈es,e.counts.length=n/\yO e.counts)(hes:es.length<2^30) :
  aj Tryz.prog 60 [.dat (.bW p),.dat (.prop q),.row 4 f (.clauses l),.row 3 g (.elems es)] (.int (orM l.length (wL l (dL (jk p q) es)))):=by
 have hst:=KO hp hq
 have hk1:=hl.len
 rw[VD]
 refine aj.of Bd.tH (by simp) rfl rfl ?_
 conv=>whnf
 refine ah.pure (S.vK p q hp hq hv) rfl ?_
 conv=>whnf
 refine aC.same [2,3,9] (fun i:Nat=>[(11,.int i)]) (fun i=>i<=l.length/\(l.take i).all (fun k=> !(es.any fun e=>jm (jk p q) e&& !holdsB k e))=true) (fun i=>l.length-i) 0 rfl (by decide) rfl (fun _=>rfl) ⟨by omega,by simp⟩ ⟨⟨_,rfl,rfl⟩,trivial⟩ ?_
 conv=>whnf
 refine⟨rfl,?_⟩
 rintro i ⟨hi,hall⟩
 conv=>whnf
 refine⟨fun h3=>?_,fun h3=>?_⟩
 ·have hi':i<l.length:=by simpa using h3
  conv=>whnf
  refine aC.same [2,3,9,11] (fun j:Nat=>[(12,.int j)]) (fun j=>j<=es.length/\(es.take j).any (fun e=>jm (jk p q) e&& !holdsB (l.getD i default) e)=false) (fun j=>es.length-j) 0 rfl (by decide) rfl (fun _=>rfl) ⟨by omega,by simp⟩ ⟨⟨_,rfl,rfl⟩,trivial⟩ ?_
  conv=>whnf
  refine⟨rfl,?_⟩
  rintro j ⟨hj,hany⟩
  conv=>whnf
  refine⟨fun h4=>?_,fun h4=>?_⟩
  ·have hj':j<es.length:=by simpa using h4
   obtain⟨e1,e2⟩:=he _ (getM (d:=default) hj')
   obtain⟨hf,hkv⟩:=hl.fit e1 e2 DY hvs hi'
   have href:IC (l.getD i default) (es.getD j default)=holdsB (l.getD i default) (es.getD j default):=hf.cl.elim fun _ c=>Hl c fun x hx=>(hf.ok x hx).1
   conv=>whnf
   refine .mk (by simp only[Rw.rng] at *; omega) ?_
   conv=>whnf
   refine ah.pure (S.qL (jk p q) (es.getD j default) false (by omega) (by omega)) rfl ?_
   conv=>whnf
   repeat(refine VC.mk (by first|exact id|exact fun h=>⟨h,h⟩|(intro h; (repeat' apply And.intro)<;>first|exact h|omega|(simp only[Rw.kK]; omega)|(simp only[Rw.rng]; omega))) ?_; conv=>whnf)
   refine ah.cO (fun _=>S.pV (l.getD i default) (es.getD j default) hf hkv) rfl ?_
   conv=>whnf
   repeat(refine VC.mk id ?_; conv=>whnf)
   rw[href]
   refine⟨fun h5=>?_,fun h5=>?_⟩
   ·have h5':(jm (jk p q) (es.getD j default)&& !holdsB (l.getD i default) (es.getD j default))=true:=h5
    conv=>whnf
    refine ak.int ?_
    have hex:(es.any fun e=>jm (jk p q) e&& !holdsB (l.getD i default) e)=true:=dS (d:=default) hj' h5'
    have hfi:=RG (p:=fun k=>es.any fun e=>jm (jk p q) e&& !holdsB k e) (d:=default) hall hi' hex
    rw[hfi,orM,show(i==l.length)=false from beq_eq_false_iff_ne.2 (by omega)]; rfl
   ·have h5':(jm (jk p q) (es.getD j default)&& !holdsB (l.getD i default) (es.getD j default))=false:=h5
    conv=>whnf
    refine .mk (by simp only[okI] at *; omega) ?_
    conv=>whnf
    refine⟨j+1,⟨by omega,?_⟩,by omega,⟨⟨_,rfl,rfl⟩,trivial⟩,?_,rfl⟩
    ·rw[fU (d:=default) hj' hany]; exact h5'
    ·repeat' (first|exact trivial|exact⟨_,rfl,rfl⟩|constructor)
  ·have hj':es.length<=j:=by simpa using h4
   rw[List.take_of_length_le hj'] at hany
   conv=>whnf
   refine .mk (by simp only[okI] at *; omega) ?_
   conv=>whnf
   refine⟨i+1,⟨by omega,?_⟩,by omega,⟨⟨_,rfl,rfl⟩,trivial⟩,?_,rfl⟩
   ·rw[iV (d:=default) hi' hall,hany]; rfl
   ·repeat' (first|exact trivial|exact⟨_,rfl,rfl⟩|constructor)
 ·have hi':l.length<=i:=by simpa using h3
  rw[List.take_of_length_le hi'] at hall
  conv=>whnf
  refine ak.int ?_
  rw[MR hall,orM,show(l.length==l.length)=true from beq_self_eq_true _]; rfl
theorem RH{fire:Elem->Option Elem}{l a:List Clause}: ∀ {es:List Elem} {s:Nat×Elem},(s.1=l.length->s.2=zE)->s.1<=l.length->(es.foldl (stepG fire l a) s).1=l.length->(es.foldl (stepG fire l a) s).2=zE:=by
 intro es
 induction es with
 |nil=>intro s h _; exact h
 |cons e es ih =>
  intro s h hle
  rw[List.foldl_cons]
  refine ih ?_ (IX hle)
  unfold stepG
  split
  ·exact h
  ·rename_i x _
   cases hc:(dh l e&&dh a e&&(decide (aZ l x<l.length)&&(decide (aZ l x<s.1)||aZ l x==s.1&&decide (dK e<dK s.2)))) with
   |false=>exact h
   |true =>
    intro h2
    rw[Bool.and_eq_true,Bool.and_eq_true,Bool.and_eq_true] at hc
    have:=of_decide_eq_true hc.2.1
    have h3:aZ l x=l.length:=h2
    omega
theorem stepG_skip{fire:Elem->Option Elem}{l a:List Clause}{s:Nat×Elem}{e:Elem}(h:(dh l e&&dh a e)=false):stepG fire l a s e=s:=by
 unfold stepG
 split
 ·rfl
 ·rw[h]; rfl
theorem stepG_none{fire:Elem->Option Elem}{l a:List Clause}{s:Nat×Elem}{e:Elem}(h:fire e=none):stepG fire l a s e=s:=by
 rw[stepG,h]
theorem RI{fire:Elem->Option Elem}{l a:List Clause}{s:Nat×Elem}{e x:Elem}(h:fire e=some x)(hv:(dh l e&&dh a e)=true):stepG fire l a s e=bif decide (aZ l x<l.length)&&(decide (aZ l x<s.1)||aZ l x==s.1&&decide (dK e<dK s.2)) then(aZ l x,e) else s:=by
 rw[stepG,h]; simp only; rw[hv,Bool.true_and]
theorem O7{n m:Nat}(h:m<n):orM n m=m:=by
 rw[orM,beq_eq_false_iff_ne.2 (by omega)]; rfl
theorem aa9{n m:Nat}(h:m=n):orM n m= -1:=by
 rw[orM,beq_iff_eq.2 h]; rfl
def Yb(s t:Nat×Elem)(d:Bool):Nat×Elem:=bif d then t else s
theorem atI{n m:Nat}(_h:m<=n):decide (orM n m<0)=(m==n):=by
 unfold orM
 cases he:m==n with
 |true=>rfl
 |false=>simp only[cond_false]; exact decide_eq_false (by omega)
theorem first_holds{l:List Clause}{x:Elem}{i:Nat}(h:i<aZ l x):holdsB (l.getD i default) x=true:=by
 have hi:i<l.length:=Nat.lt_of_lt_of_le h List.findIdx_le_length
 have:=List.not_of_lt_findIdx h
 rw[show l.getD i default=l[i] by simp[hi]]
 simpa using this
theorem O8{l:List Clause}{x:Elem}(h:aZ l x<l.length):holdsB (l.getD (aZ l x) default) x=false:=by
 have:=List.findIdx_getElem (w:=h)
 rw[show l.getD (aZ l x) default=l[aZ l x] by simp[h]]
 have h2:(!holdsB (l[aZ l x]) x)=true:=this
 simpa only[Bool.not_eq_true'] using h2
set_option maxHeartbeats 2000000 in
theorem S.pY(p:aP)(rule:Nat)(l a:List Clause)(f g:Bool)(hp:bH p)(hF:yT p)(hr:Xx p.states.length p (p.rules.getD rule default))(hri:rule<p.rules.length)(hl:jq p.states.length p.values.length l)(ha:jq p.states.length p.values.length a) :
  aj Tryz.prog 65 [.dat (.bW p),.int rule,.row 4 f (.clauses l),.row 4 g (.clauses a)] (.fA (RD l.length (sV p (p.rules.getD rule default) l a))):=by
 have g1:=hF.pos; have g2:=hF.states; have g3:=hF.values
 have k1:=hl.len; have k2:=ha.len
 have hru:=hp.rules
 have hrk:max (bI l) (bI a)=DL (l++a):=by rw[<- MQ,XG]
 have hrl3:bI l<=3:=nK fun k hk=>(hl.cl k hk).two
 have aeR:bI a<=3:=nK fun k hk=>(ha.cl k hk).two
 have aeS:=sQ (l:=l)
 have aeT:=sQ (l:=a)
 have hE:aj Tryz.prog 61 [.dat (.bW p),.int (max (bI l) (bI a)+2)] (.row 3 false (.elems (eH (DL (l++a)+3) p.states.length (iQ p)))):=by
  have:=S.rX p p.states.length (iQ p) (DL (l++a)+2) hp rfl g1 g2 rfl (by unfold iQ; omega) (by omega)
  rw[hrk]; exact this
 have OU:DL (l++a)+3<=9:=by omega
 have hok:=wQ (b:=DL (l++a)+3) (n:=p.states.length) (vals:=iQ p) (by omega)
 have G6:(eH (DL (l++a)+3) p.states.length (iQ p)).length<=3*531441:=by
  rw[oU]
  have h1:=o8 (b:=DL (l++a)+3) (n:=p.states.length) (by omega) g2
  exact Nat.mul_le_mul (by unfold iQ; omega) (by omega)
 have hend:sV p (p.rules.getD rule default) l a=DN (bF (p.rules.getD rule default)) l a (eH (DL (l++a)+3) p.states.length (iQ p)):=rfl
 rw[hend]
 generalize eH (DL (l++a)+3) p.states.length (iQ p)=es at hE G6 hok ⊢
 have hsr:=hp.rule rule
 have hst: ∀ i,(((es.take i).foldl (stepG (bF (p.rules.getD rule default)) l a) (l.length,zE)).1)<=l.length:=fun i=>D8 (fire:=bF (p.rules.getD rule default)) (l:=l) (a:=a) (es:=es.take i)
 have hsl: ∀ i,(((es.take i).foldl (stepG (bF (p.rules.getD rule default)) l a) (l.length,zE)).2.counts.length)<=6:=fun i=>La (show(0:Nat)<=6 by decide) fun e he=>by rw[(hok e (List.mem_of_mem_take he)).len]; exact g2
 have hnx: ∀ {i:Nat},i<es.length->(es.take (i+1)).foldl (stepG (bF (p.rules.getD rule default)) l a) (l.length,zE)=stepG (bF (p.rules.getD rule default)) l a ((es.take i).foldl (stepG (bF (p.rules.getD rule default)) l a) (l.length,zE)) (es.getD i default):=fun hi=>yX hi
 have O1:DN (bF (p.rules.getD rule default)) l a es=(es.take es.length).foldl (stepG (bF (p.rules.getD rule default)) l a) (l.length,zE):=by rw[List.take_length]; rfl
 have hzero:=RH (fire:=bF (p.rules.getD rule default)) (l:=l) (a:=a) (es:=es) (s:=(l.length,zE)) (fun _=>rfl) (Nat.le_refl _)
 rw[O1]
 refine aj.of Bd.pY (by simp) rfl rfl ?_
 conv=>whnf
 refine ah.pure (S.tq l f (hl.small g2 g3)) rfl ?_
 conv=>whnf
 refine ah.pure (S.tq a g (ha.small g2 g3)) rfl ?_
 conv=>whnf
 refine .mk (by simp only[okI] at *; omega) ?_
 conv=>whnf
 conv=>whnf
 refine ah.pure (hE) rfl ?_
 conv=>whnf
 conv=>whnf
 refine aC.objs 50 [1,2,3,4,9,10,12] (fun i:Nat=>[(13,.int i),(11,.int (orM l.length ((es.take i).foldl (stepG (bF (p.rules.getD rule default)) l a) (l.length,zE)).1))]) (fun i=>[(0,.box 27 11 (.dat (.bW p))),(2,.box 41 3 (.agg [.int 0,.row 0 true .nil])),(13,.box 41 3 (.dat (.elem ((es.take i).foldl (stepG (bF (p.rules.getD rule default)) l a) (l.length,zE)).2)))]) (fun i=>i<=es.length) (fun i=>es.length-i) 0 [0,2,13] rfl (by decide) (fun _=>rfl) (Nat.zero_le _) ?_ ?_ ?_
 ·refine⟨⟨_,rfl,.eq rfl⟩,⟨_,rfl,.eq ?_⟩,trivial⟩
  show T.int (orM l.length l.length)=T.int (-1)
  rw[orM,beq_self_eq_true]; rfl
 ·exact⟨⟨rfl,nofun,rfl,rfl,rfl,_,rfl,rfl,rfl,aV.of_eq rfl⟩,⟨rfl,nofun,rfl,rfl,rfl,_,rfl,rfl,rfl,aV.of_eq rfl⟩,⟨rfl,nofun,rfl,rfl,rfl,_,rfl,rfl,rfl,A8⟩,trivial⟩
 conv=>whnf
 refine⟨⟨⟨_,rfl,.eq rfl⟩,⟨_,rfl,.eq rfl⟩,⟨_,rfl,.eq rfl⟩,⟨_,rfl,.eq rfl⟩,⟨_,rfl,.eq rfl⟩,⟨_,rfl,.eq rfl⟩,⟨_,rfl,.eq rfl⟩,trivial⟩,rfl,?_⟩
 rintro i hi
 have hst1:=hst i
 have hsl1:=hsl i
 conv=>whnf
 refine⟨fun h3=>?_,fun h3=>?_⟩
 ·have hi':i<es.length:=by simpa using h3
  have hue:=hok _ (getM (d:=default) hi')
  have tC:(es.getD i default).counts.length=p.states.length:=hue.len
  have Yc:=hue.yO OU
  have hnext:=hnx hi'
  generalize ((es.take i).foldl (stepG (bF (p.rules.getD rule default)) l a) (l.length,zE))=s at *
  conv=>whnf
  refine .mk (by simp only[Rw.rng] at *; omega) ?_
  conv=>whnf
  refine ah.pure (S.rW l (es.getD i default) f (by omega) (fun j hj=>hl.fit tC Yc g2 g3 hj)) rfl ?_
  conv=>whnf
  repeat(refine VC.mk (by first|exact id|exact fun h=>⟨h,h⟩|(intro h; (repeat' apply And.intro)<;>first|exact h|omega|(simp only[Rw.kK]; omega)|(simp only[Rw.rng]; omega))) ?_; conv=>whnf)
  refine ah.cO (fun _=>S.rW a (es.getD i default) g (by omega) (fun j hj=>ha.fit tC Yc g2 g3 hj)) rfl ?_
  conv=>whnf
  repeat(refine VC.mk (by first|exact id|(intro h; rw[h]; rfl)) ?_; conv=>whnf)
  refine⟨fun h4=>?_,fun h4=>?_⟩
  ·have h4':(dh l (es.getD i default)&&dh a (es.getD i default))=false:=by
    have h5:(!(dh l (es.getD i default))|| !(dh a (es.getD i default)))=true:=h4
    rw[<- Bool.not_and] at h5; simpa only[Bool.not_eq_true'] using h5
   rw[stepG_skip h4'] at hnext
   conv=>whnf
   refine .mk (by simp only[okI] at *; omega) ?_
   conv=>whnf
   refine⟨i+1,[0,2,13],by omega,by omega,⟨⟨_,rfl,.eq rfl⟩,⟨_,rfl,.eq ?_⟩,trivial⟩,⟨⟨_,rfl,.eq rfl⟩,⟨_,rfl,.eq rfl⟩,⟨_,rfl,.eq rfl⟩,⟨_,rfl,.eq rfl⟩,⟨_,rfl,.eq rfl⟩,⟨_,rfl,.eq rfl⟩,⟨_,rfl,.eq rfl⟩,trivial⟩,⟨rfl,nofun,rfl,rfl,rfl,_,rfl,rfl,rfl,aV.of_eq rfl⟩,⟨rfl,nofun,rfl,rfl,rfl,_,rfl,rfl,rfl,aV.of_eq rfl⟩,⟨rfl,nofun,rfl,rfl,rfl,_,rfl,rfl,rfl,aV.of_eq ?_⟩,trivial⟩
   ·exact congrArg (fun s:Nat×Elem=>T.int (orM l.length s.1)) hnext
   ·exact congrArg (fun s:Nat×Elem=>(OV.box 41 3 (.dat (.elem s.2))).aG.l) hnext
  have h4':(dh l (es.getD i default)&&dh a (es.getD i default))=true:=by
   have h5:(!(dh l (es.getD i default))|| !(dh a (es.getD i default)))=false:=h4
   rw[<- Bool.not_and] at h5; simpa only[Bool.not_eq_false'] using h5
  conv=>whnf
  repeat(refine VC.mk (by simp only[Rw.rng]; omega) ?_; conv=>whnf)
  have hFi:=aj.Iy (S.zV (p.rules.getD rule default) (es.getD i default) hsr (by rw[tC]; exact hr.place) Yc (by rw[tC]; exact g2))
  cases hO:bF (p.rules.getD rule default) (es.getD i default) with
  |none =>
   rw[stepG_none hO] at hnext
   rw[Iy,hO] at hFi
   refine ah.pure hFi rfl ?_
   conv=>whnf
   refine Fork.mk (fun _=>?_) (fun q=>absurd (q.symm.trans ((rfl:true=true))) Bool.false_ne_true)
   conv=>whnf
   refine .mk (by simp only[okI] at *; omega) ?_
   conv=>whnf
   conv=>whnf
   refine⟨i+1,[0,2,13],by omega,by omega,⟨⟨_,rfl,.eq rfl⟩,⟨_,rfl,.eq ?_⟩,trivial⟩,⟨⟨_,rfl,.eq rfl⟩,⟨_,rfl,.eq rfl⟩,⟨_,rfl,.eq rfl⟩,⟨_,rfl,.eq rfl⟩,⟨_,rfl,.eq rfl⟩,⟨_,rfl,.eq rfl⟩,⟨_,rfl,.eq rfl⟩,trivial⟩,⟨rfl,nofun,rfl,rfl,rfl,_,rfl,rfl,rfl,aV.of_eq rfl⟩,⟨rfl,nofun,rfl,rfl,rfl,_,rfl,rfl,rfl,aV.of_eq rfl⟩,⟨rfl,nofun,rfl,rfl,rfl,_,rfl,rfl,rfl,aV.of_eq ?_⟩,trivial⟩
   ·exact congrArg (fun s:Nat×Elem=>T.int (orM l.length s.1)) hnext
   ·exact congrArg (fun s:Nat×Elem=>(OV.box 41 3 (.dat (.elem s.2))).aG.l) hnext
  |some x =>
   have hxl:x.counts.length=p.states.length:=by rw[KL hO,tC]
   have hxk:=TW (hue.nn OU) (by rw[tC]; exact g2) hO
   have N7:=RI (s:=s) hO h4'
   rw[Iy,hO] at hFi
   refine ah.pure hFi rfl ?_
   conv=>whnf
   refine Fork.mk (fun q=>absurd (q.symm.trans ((rfl:false=false))).symm Bool.false_ne_true) (fun _=>?_)
   conv=>whnf
   conv=>whnf
   generalize hT:(stepG (bF (p.rules.getD rule default)) l a s (es.getD i default))=t at *
   have htl:t.1<=l.length:=by rw[<- hT]; exact IX hst1
   refine aC.objs (ι:=Nat×Bool) 100 [1,2,3,4,9,10,12,13,14] (fun x=>[(16,.int x.1),(11,.int (orM l.length (Yb s t x.2).1))]) (fun y=>[(0,.box 27 11 (.dat (.bW p))),(2,.box 41 3 (.agg [.int 0,.row 0 true .nil])),(13,.box 41 3 (.dat (.elem (Yb s t y.2).2))),(83,.box 41 3 (.dat (.elem x)))]) (fun y=>(y.2=false->y.1<=aZ l x/\y.1<=l.length)/\(y.2=true->t.1<l.length/\t.1<y.1)) (fun y=>l.length-y.1) (0,false) [0,2,13,83] rfl (by decide) (fun _=>rfl) ⟨fun _=>⟨Nat.zero_le _,Nat.zero_le _⟩,fun h=>by cases h⟩ ?_ ?_ ?_
   ·exact⟨⟨_,rfl,.eq rfl⟩,⟨_,rfl,.eq rfl⟩,trivial⟩
   ·exact⟨⟨rfl,nofun,rfl,rfl,rfl,_,rfl,rfl,rfl,aV.of_eq rfl⟩,⟨rfl,nofun,rfl,rfl,rfl,_,rfl,rfl,rfl,aV.of_eq rfl⟩,⟨rfl,nofun,rfl,rfl,rfl,_,rfl,rfl,rfl,aV.of_eq rfl⟩,⟨rfl,nofun,rfl,rfl,rfl,_,rfl,rfl,rfl,aV.of_eq rfl⟩,trivial⟩
   conv=>whnf
   refine⟨⟨⟨_,rfl,.eq rfl⟩,⟨_,rfl,.eq rfl⟩,⟨_,rfl,.eq rfl⟩,⟨_,rfl,.eq rfl⟩,⟨_,rfl,.eq rfl⟩,⟨_,rfl,.eq rfl⟩,⟨_,rfl,.eq rfl⟩,⟨_,rfl,.eq rfl⟩,⟨_,rfl,.eq rfl⟩,trivial⟩,rfl,?_⟩
   rintro⟨k,d⟩ ⟨hd0,hd1⟩
   simp only at hd0 hd1
   have hul:(Yb s t d).1<=l.length:=by cases d; exact hst1; exact htl
   have hat:=atI hul
   conv=>whnf
   repeat(refine VC.mk (by first|exact id|exact fun h=>⟨h,h⟩|(intro h; simp_all; done)) ?_; conv=>whnf)
   refine⟨fun h6=>?_,fun h6=>?_⟩
   ·have h6':(decide ((k:Int)<l.length)&&(decide (orM l.length (Yb s t d).1<0)||decide ((k:Int)<=orM l.length (Yb s t d).1)))=true:=h6
    rw[Bool.and_eq_true,decide_eq_true_eq,Bool.or_eq_true,decide_eq_true_eq,decide_eq_true_eq] at h6'
    obtain⟨c1,c2⟩:=h6'
    have hk:k<l.length:=by omega
    obtain rfl:d=false:=by
     cases d with
     |false=>rfl
     |true =>
      obtain⟨e1,e2⟩:=hd1 rfl
      exfalso
      rw[show(Yb s t true)=t from rfl,O7 e1] at c2
      omega
    obtain⟨d1,d2⟩:=hd0 rfl
    rw[show(Yb s t false)=s from rfl] at c2
    obtain⟨hfit,hkv⟩:=hl.fit hxl hxk g2 g3 hk
    have href:IC (l.getD k default) x=holdsB (l.getD k default) x:=hfit.cl.elim fun _ c=>Hl c fun y hy=>(hfit.ok y hy).1
    conv=>whnf
    refine .mk (by simp only[Rw.rng] at *; omega) ?_
    conv=>whnf
    refine ah.pure (S.pV (l.getD k default) x hfit hkv) rfl ?_
    conv=>whnf
    repeat(refine VC.mk (by first|exact id|exact fun h=>⟨h,h⟩|(intro h; simp_all; done)|(intro h; (repeat' apply And.intro)<;>first|exact h|omega|(simp only[Rw.kK]; omega)|(simp only[Rw.rng]; omega))) ?_; conv=>whnf)
    rw[href]
    refine ah.cO (fun _=>S.mV (es.getD i default) (by rw[tC]; omega)) rfl ?_
    conv=>whnf
    refine VC.mk id ?_
    conv=>whnf
    refine ah.cO (fun _=>S.mV s.2 (by omega)) rfl ?_
    conv=>whnf
    repeat(refine VC.mk (by first|exact id|exact fun h=>⟨h,h⟩|(intro h; simp_all; done)) ?_; conv=>whnf)
    refine⟨fun h7=>?_,fun h7=>?_⟩
    ·have QG:(!(holdsB (l.getD k default) x)&&((decide (orM l.length s.1<0)||decide ((k:Int)<orM l.length s.1))||decide (dK (es.getD i default)<dK s.2)))=true:=h7
     rw[Bool.and_eq_true,Bool.or_eq_true,Bool.or_eq_true,decide_eq_true_eq,decide_eq_true_eq,decide_eq_true_eq,Bool.not_eq_true'] at QG
     obtain⟨hH,hC⟩:=QG
     have hkF:k=aZ l x:=by
      rcases Nat.lt_or_ge k (aZ l x) with hlt|hge
      ·rw[first_holds hlt] at hH; cases hH
      ·omega
     have htt:t=(aZ l x,es.getD i default):=by
      rw[N7]
      have hcond:(decide (aZ l x<l.length)&&(decide (aZ l x<s.1)||aZ l x==s.1&&decide (dK (es.getD i default)<dK s.2)))=true:=by
       rw[decide_eq_true (show aZ l x<l.length by omega),Bool.true_and]
       rcases Nat.lt_or_ge (aZ l x) s.1 with hlt|hge
       ·rw[decide_eq_true hlt]; rfl
       ·have hsl2:s.1<l.length:=by omega
        rw[O7 hsl2] at hC c2
        rw[show(aZ l x==s.1)=true from beq_iff_eq.2 (by omega),decide_eq_true (show dK (es.getD i default)<dK s.2 by omega),Bool.true_and,Bool.or_true]
      rw[hcond]; rfl
     conv=>whnf
     repeat(refine VC.mk (by simp only[okI,Rw.rng] at *; omega) ?_; conv=>whnf)
     refine⟨(k+1,true),[0,2,13,83],?_,by show l.length-(k+1)<l.length-k; omega,⟨⟨_,rfl,.eq rfl⟩,⟨_,rfl,.eq ?_⟩,trivial⟩,⟨⟨_,rfl,.eq rfl⟩,⟨_,rfl,.eq rfl⟩,⟨_,rfl,.eq rfl⟩,⟨_,rfl,.eq rfl⟩,⟨_,rfl,.eq rfl⟩,⟨_,rfl,.eq rfl⟩,⟨_,rfl,.eq rfl⟩,⟨_,rfl,.eq rfl⟩,⟨_,rfl,.eq rfl⟩,trivial⟩,⟨rfl,nofun,rfl,rfl,rfl,_,rfl,rfl,rfl,aV.of_eq rfl⟩,⟨rfl,nofun,rfl,rfl,rfl,_,rfl,rfl,rfl,aV.of_eq rfl⟩,⟨rfl,nofun,rfl,rfl,rfl,_,rfl,rfl,rfl,aV.of_eq ?_⟩,⟨rfl,nofun,rfl,rfl,rfl,_,rfl,rfl,rfl,aV.of_eq rfl⟩,trivial⟩
     ·refine⟨nofun,fun _=>?_⟩
      rw[htt]; show aZ l x<l.length/\aZ l x<k+1; omega
     ·show T.int (orM l.length t.1)=T.int k
      rw[htt,O7 (show aZ l x<l.length by omega),<- hkF]
     ·show(OV.box 41 3 (.dat (.elem t.2))).aG.l=_
      rw[htt]; rfl
    ·have QG:(!(holdsB (l.getD k default) x)&&((decide (orM l.length s.1<0)||decide ((k:Int)<orM l.length s.1))||decide (dK (es.getD i default)<dK s.2)))=false:=h7
     cases hH:holdsB (l.getD k default) x with
     |true =>
      have hkF:k<aZ l x:=by
       rcases Nat.lt_or_ge k (aZ l x) with hlt|hge
       ·exact hlt
       ·have e1:k=aZ l x:=by omega
        have:=O8 (l:=l) (x:=x) (by omega)
        rw[<- e1,hH] at this; cases this
      conv=>whnf
      refine .mk (by simp only[okI] at *; omega) ?_
      conv=>whnf
      refine⟨(k+1,false),[0,2,13,83],?_,by show l.length-(k+1)<l.length-k; omega,⟨⟨_,rfl,.eq rfl⟩,⟨_,rfl,.eq ?_⟩,trivial⟩,⟨⟨_,rfl,.eq rfl⟩,⟨_,rfl,.eq rfl⟩,⟨_,rfl,.eq rfl⟩,⟨_,rfl,.eq rfl⟩,⟨_,rfl,.eq rfl⟩,⟨_,rfl,.eq rfl⟩,⟨_,rfl,.eq rfl⟩,⟨_,rfl,.eq rfl⟩,⟨_,rfl,.eq rfl⟩,trivial⟩,⟨rfl,nofun,rfl,rfl,rfl,_,rfl,rfl,rfl,aV.of_eq rfl⟩,⟨rfl,nofun,rfl,rfl,rfl,_,rfl,rfl,rfl,aV.of_eq rfl⟩,⟨rfl,nofun,rfl,rfl,rfl,_,rfl,rfl,rfl,aV.of_eq ?_⟩,⟨rfl,nofun,rfl,rfl,rfl,_,rfl,rfl,rfl,aV.of_eq rfl⟩,trivial⟩
      ·exact⟨fun _=>⟨by show k+1<=_; omega,by show k+1<=_; omega⟩,fun h=>by cases h⟩
      ·rfl
      ·rfl
     |false =>
      rw[hH] at QG
      have h8:((decide (orM l.length s.1<0)||decide ((k:Int)<orM l.length s.1))||decide (dK (es.getD i default)<dK s.2))=false:=QG
      rw[Bool.or_eq_false_iff,Bool.or_eq_false_iff,decide_eq_false_iff_not,decide_eq_false_iff_not,decide_eq_false_iff_not] at h8
      obtain⟨⟨u1,u2⟩,u3⟩:=h8
      have hs1:s.1<l.length:=by
       rcases Nat.lt_or_ge s.1 l.length with hlt|hge
       ·exact hlt
       ·exact absurd (show orM l.length s.1<0 by rw[aa9 (by omega)]; decide) u1
      rw[O7 hs1] at u2
      have hkF:k=aZ l x:=by
       rcases Nat.lt_or_ge k (aZ l x) with hlt|hge
       ·rw[first_holds hlt] at hH; cases hH
       ·omega
      have htt:t=s:=by
       rw[N7,decide_eq_false (show ¬ aZ l x<s.1 by omega),decide_eq_false u3,Bool.and_false,Bool.or_false,Bool.and_false]; rfl
      conv=>whnf
      refine .mk (by simp only[okI] at *; omega) ?_
      conv=>whnf
      refine⟨(k+1,true),[0,2,13,83],?_,by show l.length-(k+1)<l.length-k; omega,⟨⟨_,rfl,.eq rfl⟩,⟨_,rfl,.eq ?_⟩,trivial⟩,⟨⟨_,rfl,.eq rfl⟩,⟨_,rfl,.eq rfl⟩,⟨_,rfl,.eq rfl⟩,⟨_,rfl,.eq rfl⟩,⟨_,rfl,.eq rfl⟩,⟨_,rfl,.eq rfl⟩,⟨_,rfl,.eq rfl⟩,⟨_,rfl,.eq rfl⟩,⟨_,rfl,.eq rfl⟩,trivial⟩,⟨rfl,nofun,rfl,rfl,rfl,_,rfl,rfl,rfl,aV.of_eq rfl⟩,⟨rfl,nofun,rfl,rfl,rfl,_,rfl,rfl,rfl,aV.of_eq rfl⟩,⟨rfl,nofun,rfl,rfl,rfl,_,rfl,rfl,rfl,aV.of_eq ?_⟩,⟨rfl,nofun,rfl,rfl,rfl,_,rfl,rfl,rfl,aV.of_eq rfl⟩,trivial⟩
      ·refine⟨nofun,fun _=>?_⟩
       rw[htt]; show s.1<l.length/\s.1<k+1; omega
      ·show T.int (orM l.length t.1)=T.int (orM l.length s.1)
       rw[htt]
      ·show(OV.box 41 3 (.dat (.elem t.2))).aG.l=(OV.box 41 3 (.dat (.elem s.2))).aG.l
       rw[htt]
   ·have h6':(decide ((k:Int)<l.length)&&(decide (orM l.length (Yb s t d).1<0)||decide ((k:Int)<=orM l.length (Yb s t d).1)))=false:=h6
    have hut:Yb s t d=t:=by
     cases d with
     |true=>rfl
     |false =>
      obtain⟨d1,d2⟩:=hd0 rfl
      rw[show(Yb s t false)=s from rfl] at h6' ⊢
      rw[N7]
      rcases Nat.lt_or_ge k l.length with hlt|hge
      ·rw[decide_eq_true (show(k:Int)<l.length by omega),Bool.true_and,Bool.or_eq_false_iff,decide_eq_false_iff_not,decide_eq_false_iff_not] at h6'
       have hs1:s.1<l.length:=by
        rcases Nat.lt_or_ge s.1 l.length with hlt|hge
        ·exact hlt
        ·exact absurd (show orM l.length s.1<0 by rw[aa9 (by omega)]; decide) h6'.1
       rw[O7 hs1] at h6'
       rw[decide_eq_false (show ¬ aZ l x<s.1 by omega),beq_eq_false_iff_ne.2 (show aZ l x≠s.1 by omega),Bool.false_and,Bool.or_false,Bool.and_false]; rfl
      ·rw[decide_eq_false (show ¬ aZ l x<l.length by omega),Bool.false_and]; rfl
    rw[hut]
    conv=>whnf
    refine .mk (by simp only[okI] at *; omega) ?_
    conv=>whnf
    refine⟨i+1,[0,2,13],by omega,by omega,⟨⟨_,rfl,.eq rfl⟩,⟨_,rfl,.eq ?_⟩,trivial⟩,⟨⟨_,rfl,.eq rfl⟩,⟨_,rfl,.eq rfl⟩,⟨_,rfl,.eq rfl⟩,⟨_,rfl,.eq rfl⟩,⟨_,rfl,.eq rfl⟩,⟨_,rfl,.eq rfl⟩,⟨_,rfl,.eq rfl⟩,trivial⟩,⟨rfl,nofun,rfl,rfl,rfl,_,rfl,rfl,rfl,aV.of_eq rfl⟩,⟨rfl,nofun,rfl,rfl,rfl,_,rfl,rfl,rfl,aV.of_eq rfl⟩,⟨rfl,nofun,rfl,rfl,rfl,_,rfl,rfl,rfl,aV.of_eq ?_⟩,trivial⟩
    ·exact congrArg (fun s:Nat×Elem=>T.int (orM l.length s.1)) hnext
    ·exact congrArg (fun s:Nat×Elem=>(OV.box 41 3 (.dat (.elem s.2))).aG.l) hnext
 ·have hi':i=es.length:=by have:es.length<=i:=(by simpa using h3); omega
  subst hi'
  rw[show es.take es.length=es from List.take_length]
  generalize es.foldl (stepG (bF (p.rules.getD rule default)) l a) (l.length,zE)=s at hzero ⊢
  conv=>whnf
  refine ak.eqv ?_
  show T.fA [.int (orM l.length s.1),nI (bif s.1==l.length then zE else s.2)]=T.fA [.int (orM l.length s.1),nI s.2]
  cases hb:s.1==l.length with
  |false=>rfl
  |true=>rw[hzero (beq_iff_eq.1 hb)]; rfl
theorem S.mD(p:aP)(rule:Int)(l a:List Clause)(f g:Bool)(hp:bH p)(hl:SmallK l)(ha:SmallK a):aj Tryz.prog 20 [.dat (.bW p),.int rule,.row 4 f (.clauses l),.row 4 g (.clauses a)] (Fe p rule l a):=by
 refine aj.of Bd.mD (by simp) rfl (by unfold Fe; cases wK p rule l a !=0<;>rfl) ?_
 conv=>whnf
 refine ah.pure (S.rV p hp) rfl ?_
 conv=>whnf
 refine⟨fun h1=>?_,fun h1=>?_⟩
 ·have he:wK p rule l a=wJ p:=by rw[wK,show(wJ p !=0)=true from h1]; rfl
  conv=>whnf
  rw[vP he h1]
  exact ak.zero3
 have hk:=hp.rules
 conv=>whnf
 repeat(refine VC.mk (by first|exact id|exact fun h=>⟨h,h⟩|(intro h; rw[h]; rfl)) ?_; conv=>whnf)
 refine⟨fun h2=>?_,fun h2=>?_⟩
 ·have h2':(decide (rule<0)||decide (rule>=p.rules.length))=true:=h2
  have he:wK p rule l a=6:=by rw[wK,show(wJ p !=0)=false from h1,h2']; rfl
  conv=>whnf
  rw[vP he (by decide)]
  exact ak.zero3
 have h2':(decide (rule<0)||decide (rule>=p.rules.length))=false:=h2
 have he:wK p rule l a=vO p l a:=by rw[wK,show(wJ p !=0)=false from h1,h2']; rfl
 rw[Bool.or_eq_false_iff,decide_eq_false_iff_not,decide_eq_false_iff_not] at h2'
 obtain⟨r1,r2⟩:=h2'
 conv=>whnf
 refine ah.pure (S.kM p l f hp hl) rfl ?_
 conv=>whnf
 refine⟨fun h3=>?_,fun h3=>?_⟩
 ·have he2:wK p rule l a=iC p l:=by rw[he,vO,show(iC p l !=0)=true from h3]; rfl
  conv=>whnf
  rw[vP he2 h3]
  exact ak.zero3
 conv=>whnf
 refine ah.pure (S.kM p a g hp ha) rfl ?_
 conv=>whnf
 refine⟨fun h4=>?_,fun h4=>?_⟩
 ·have he2:wK p rule l a=iC p a:=by rw[he,vO,show(iC p l !=0)=false from h3]; rfl
  conv=>whnf
  rw[vP he2 h4]
  exact ak.zero3
 have hz:vO p l a=0:=by rw[vO,uQ h3,uQ h4]; rfl
 obtain⟨k1,k2,k3,k4⟩:=Ua hz
 obtain⟨hF,hpl⟩:=wS (uQ h1)
 obtain⟨rr,rfl⟩: ∃ rr:Nat,rule=rr:=⟨rule.toNat,by omega⟩
 have hV:Fe p rr l a= .fA (RD l.length (sV p (p.rules.getD rr default) l a)++[.int 0]):=by
  rw[Fe,he,hz]; rfl
 rw[hV]
 conv=>whnf
 refine ah.pure (S.pY p rr l a f g hp hF (Xy hF (Fj hpl) (by omega)) (by omega) k1 k2) rfl ?_
 conv=>whnf
 exact ak.eqv rfl
theorem S.tJ(q:Prop')(hq:kC q):aj Tryz.prog 110 [.dat (.prop q)] (.int (lgB q.bad)):=by
 have q2:=hq.bad
 refine aj.of Bd.tJ (by simp) rfl rfl ?_
 conv=>whnf
 refine aC.same [1] (fun i:Nat=>[(4,.int i),(3,.int ((q.bad.take i).foldl (fun m k=>max m k.least) 0))]) (fun i=>i<=q.bad.length) (fun i=>q.bad.length-i) 0 rfl (by decide) rfl (fun _=>rfl) (Nat.zero_le _) ⟨⟨_,rfl,rfl⟩,⟨_,rfl,rfl⟩,trivial⟩ ?_
 conv=>whnf
 refine⟨rfl,?_⟩
 rintro i hi
 conv=>whnf
 refine⟨fun h3=>?_,fun h3=>?_⟩
 ·have hi':i<q.bad.length:=by simpa using h3
  have hlt:=TY (r:=0) hi'
  conv=>whnf
  repeat(refine VC.mk (by simp only[okI,Rw.rng] at *; omega) ?_; conv=>whnf)
  refine⟨i+1,by omega,by omega,⟨⟨_,rfl,rfl⟩,⟨_,rfl,?_⟩,trivial⟩,?_,rfl⟩
  ·rw[hlt]; rfl
  ·repeat' (first|exact trivial|exact⟨_,rfl,rfl⟩|constructor)
 ·have hi':i=q.bad.length:=by have:q.bad.length<=i:=(by simpa using h3); omega
  subst hi'
  rw[List.take_length]
  conv=>whnf
  exact ak.int rfl
set_option maxHeartbeats 1000000 in
theorem S.x9(p:aP)(q:Prop')(l:List Clause)(f:Bool)(hp:bH p)(hq:kC q)(hF:yT p)(hB:X8 p.states.length q)(hR:jq p.states.length p.values.length l):aj Tryz.prog 69 [.dat (.bW p),.dat (.prop q),.row 4 f (.clauses l)] (VB (J6 p q l)):=by
 have g1:=hF.pos; have g2:=hF.states; have g3:=hF.values
 have q1:=hq.bad
 have hk1:=hR.len
 have ZR:bI l<=3:=nK fun k hk=>(hR.cl k hk).two
 have adk:=sQ (l:=l)
 have hlg:=X9 hB.least
 have hmd:=Ya (q:=q) (l:=l)
 have OU:Ld q l+3<=9:=by omega
 have hE:aj Tryz.prog 61 [.dat (.bW p),.int (max (bI l) (lgB q.bad)+2)] (.row 3 false (.elems (eH (Ld q l+3) p.states.length (iQ p)))):=by
  have:=S.rX p p.states.length (iQ p) (Ld q l+2) hp rfl g1 g2 rfl (by unfold iQ; omega) (by omega)
  rw[hmd]; exact this
 have hok:=wQ (b:=Ld q l+3) (n:=p.states.length) (vals:=iQ p) (by omega)
 have G6:(eH (Ld q l+3) p.states.length (iQ p)).length<=3*531441:=by
  rw[oU]
  have:=o8 (b:=Ld q l+3) (n:=p.states.length) OU g2
  exact Nat.mul_le_mul (by unfold iQ; omega) (by omega)
 have hend:J6 p q l=Vb (fun e=>pG q e.counts) l (eH (Ld q l+3) p.states.length (iQ p)):=rfl
 rw[hend]
 generalize eH (Ld q l+3) p.states.length (iQ p)=es at hE G6 hok ⊢
 have hmem: ∀ i x,(es.take i).foldl (tu (fun e=>pG q e.counts) l) none=some x->x.counts.length=p.states.length:=fun i x h=>(hok x (List.mem_of_mem_take (OZ h))).len
 have O1:Vb (fun e=>pG q e.counts) l es=(es.take es.length).foldl (tu (fun e=>pG q e.counts) l) none:=by rw[List.take_length]; rfl
 rw[O1]
 refine aj.of Bd.x9 (by simp) rfl (by rfl) ?_
 conv=>whnf
 refine ah.pure (S.tq l f (hR.small g2 g3)) rfl ?_
 conv=>whnf
 refine ah.pure (S.tJ q hq) rfl ?_
 conv=>whnf
 refine .mk (by simp only[okI] at *; omega) ?_
 conv=>whnf
 conv=>whnf
 refine ah.pure (hE) rfl ?_
 conv=>whnf
 conv=>whnf
 refine aC.objs 50 [2,4,6,8,10] (fun i:Nat=>[(11,.int i),(9,.bool ((es.take i).foldl (tu (fun e=>pG q e.counts) l) none).isSome)]) (fun i=>[(1,.box 30 7 (.dat (.prop q))),(2,.box 41 3 (.agg [.int 0,.row 0 true .nil])),(14,.box 41 3 (.dat (.elem (((es.take i).foldl (tu (fun e=>pG q e.counts) l) none).getD zE))))]) (fun i=>i<=es.length) (fun i=>es.length-i) 0 [1,2,14] rfl (by decide) (fun _=>rfl) (Nat.zero_le _) ?_ ?_ ?_
 ·exact⟨⟨_,rfl,.eq rfl⟩,⟨_,rfl,.eq rfl⟩,trivial⟩
 ·exact⟨⟨rfl,nofun,rfl,rfl,rfl,_,rfl,rfl,rfl,aV.of_eq rfl⟩,⟨rfl,nofun,rfl,rfl,rfl,_,rfl,rfl,rfl,aV.of_eq rfl⟩,⟨rfl,nofun,rfl,rfl,rfl,_,rfl,rfl,rfl,A8⟩,trivial⟩
 conv=>whnf
 refine⟨⟨⟨_,rfl,.eq rfl⟩,⟨_,rfl,.eq rfl⟩,⟨_,rfl,.eq rfl⟩,⟨_,rfl,.eq rfl⟩,⟨_,rfl,.eq rfl⟩,trivial⟩,rfl,?_⟩
 rintro i hi
 have AV:=hmem i
 conv=>whnf
 refine⟨fun h3=>?_,fun h3=>?_⟩
 ·have hi':i<es.length:=by simpa using h3
  have hue:=hok _ (getM (d:=default) hi')
  have tC:(es.getD i default).counts.length=p.states.length:=hue.len
  have Yc:=hue.yO OU
  have hnx:(es.take (i+1)).foldl (tu (fun e=>pG q e.counts) l) none=tu (fun e=>pG q e.counts) l ((es.take i).foldl (tu (fun e=>pG q e.counts) l) none) (es.getD i default):=yX hi'
  generalize (es.take i).foldl (tu (fun e=>pG q e.counts) l) none=s at *
  have hsl:(s.getD zE).counts.length<=6:=by
   cases s with
   |none=>exact show(0:Nat)<=6 by decide
   |some x=>have:=AV x rfl; show x.counts.length<=6; omega
  have hsn:(!s.isSome)=s.isNone:=by cases s<;>rfl
  have N7:tu (fun e=>pG q e.counts) l s (es.getD i default)=bif pG q (es.getD i default).counts&&(dh l (es.getD i default)&&(s.isNone||decide (dK (es.getD i default)<dK (s.getD zE)))) then some (es.getD i default) else s:=rfl
  conv=>whnf
  refine .mk (by simp only[Rw.rng] at *; omega) ?_
  conv=>whnf
  refine ah.pure (S.qP q (es.getD i default).counts false hq (by rw[tC]; exact hB) (hue.nn OU) (by rw[tC]; omega)) rfl ?_
  conv=>whnf
  repeat(refine VC.mk (by first|exact id|exact fun h=>⟨h,h⟩|(intro h; (repeat' apply And.intro)<;>first|exact h|omega|(simp only[Rw.kK]; omega)|(simp only[Rw.rng]; omega))) ?_; conv=>whnf)
  refine ah.cO (fun _=>S.rW l (es.getD i default) f (by omega) (fun j hj=>hR.fit tC Yc g2 g3 hj)) rfl ?_
  conv=>whnf
  repeat(refine VC.mk (by first|exact id|(intro h; (repeat' apply And.intro)<;>first|exact h|omega|(simp only[Rw.kK]; omega)|(simp only[Rw.rng]; omega))) ?_; conv=>whnf)
  refine ah.cO (fun _=>S.mV (es.getD i default) (by rw[tC]; omega)) rfl ?_
  conv=>whnf
  refine VC.mk id ?_
  conv=>whnf
  refine ah.cO (fun _=>S.mV (s.getD zE) (by omega)) rfl ?_
  conv=>whnf
  repeat(refine VC.mk (by first|exact id|exact fun h=>⟨h,h⟩|(intro h; simp_all; done)) ?_; conv=>whnf)
  refine⟨fun h5=>?_,fun h5=>?_⟩
  ·have h5':(pG q (es.getD i default).counts&&(dh l (es.getD i default)&&(s.isNone||decide (dK (es.getD i default)<dK (s.getD zE)))))=true:=by
    rw[<- Bool.and_assoc,<- hsn]; exact h5
   rw[h5'] at N7
   rw[N7] at hnx
   have hfin:=congrArg (fun s:Option Elem=>(OV.box 41 3 (.dat (.elem (s.getD zE)))).aG.l) hnx
   have Yd:=congrArg (fun s:Option Elem=>T.bool s.isSome) hnx
   conv=>whnf
   repeat(refine VC.mk (by simp only[okI,Rw.rng] at *; omega) ?_; conv=>whnf)
   refine⟨i+1,[1,2,14],by omega,by omega,⟨⟨_,rfl,.eq rfl⟩,⟨_,rfl,.eq ?_⟩,trivial⟩,⟨⟨_,rfl,.eq rfl⟩,⟨_,rfl,.eq rfl⟩,⟨_,rfl,.eq rfl⟩,⟨_,rfl,.eq rfl⟩,⟨_,rfl,.eq rfl⟩,trivial⟩,⟨rfl,nofun,rfl,rfl,rfl,_,rfl,rfl,rfl,aV.of_eq rfl⟩,⟨rfl,nofun,rfl,rfl,rfl,_,rfl,rfl,rfl,aV.of_eq rfl⟩,⟨rfl,nofun,rfl,rfl,rfl,_,rfl,rfl,rfl,aV.of_eq ?_⟩,trivial⟩
   ·exact Yd
   ·exact hfin
  ·have h5':(pG q (es.getD i default).counts&&(dh l (es.getD i default)&&(s.isNone||decide (dK (es.getD i default)<dK (s.getD zE)))))=false:=by
    rw[<- Bool.and_assoc,<- hsn]; exact h5
   rw[h5'] at N7
   rw[N7] at hnx
   have hfin:=congrArg (fun s:Option Elem=>(OV.box 41 3 (.dat (.elem (s.getD zE)))).aG.l) hnx
   have Yd:=congrArg (fun s:Option Elem=>T.bool s.isSome) hnx
   conv=>whnf
   refine .mk (by simp only[okI] at *; omega) ?_
   conv=>whnf
   refine⟨i+1,[1,2,14],by omega,by omega,⟨⟨_,rfl,.eq rfl⟩,⟨_,rfl,.eq ?_⟩,trivial⟩,⟨⟨_,rfl,.eq rfl⟩,⟨_,rfl,.eq rfl⟩,⟨_,rfl,.eq rfl⟩,⟨_,rfl,.eq rfl⟩,⟨_,rfl,.eq rfl⟩,trivial⟩,⟨rfl,nofun,rfl,rfl,rfl,_,rfl,rfl,rfl,aV.of_eq rfl⟩,⟨rfl,nofun,rfl,rfl,rfl,_,rfl,rfl,rfl,aV.of_eq rfl⟩,⟨rfl,nofun,rfl,rfl,rfl,_,rfl,rfl,rfl,aV.of_eq ?_⟩,trivial⟩
   ·exact Yd
   ·exact hfin
 ·have hi':i=es.length:=by have:es.length<=i:=(by simpa using h3); omega
  subst hi'
  generalize (es.take es.length).foldl (tu (fun e=>pG q e.counts) l) none=s at *
  conv=>whnf
  exact ak.eqv rfl
theorem wI.Ol{P:Program}{f:FuncId}{ts ts':List T}{t:Nat->T}{o:Option Ob}(H:wI P f ts t o){h:Hp}{n:Nat}{K:T->Hp->Prop}(Z:Nat->Prop)(hs:T.dH Z h ts ts')(hK: ∀ h0:Hp,(∀ i,Z i->h0 i=none)->(∀ i,¬ Z i->h0 i=h i)->K (t n) (ng h0 n o)) :
  aU P f ts' h n K:=by
 classical
 let h0:Hp:=fun i=>if Z i then none else h i
 have hk0:K (t n) (ng h0 n o):=hK h0 (fun i hz=>if_pos hz) (fun i hz=>if_neg hz)
 refine aU.mono (post:=fun t' h'=>t'=t n/\h'=ng h0 n o) ?_ fun _ _ ⟨h1,h2⟩=>h1▸h2▸hk0
 obtain⟨_,hcl,hcall⟩:=wI.frame H h0 n
 refine⟨⟨_,_,rfl,rfl⟩,hcl,fun F M E vs hk he hts hid hm hn=>?_⟩
 subst he
 have hE0:(E.shut Z).h=h0:=by
  funext i
  cases hq:(E.shut Z).h i with
  |some ob=>obtain⟨h1,h2⟩:=rZ hq; show some ob=if Z i then none else E.h i; rw[if_neg h2,h1]
  |none =>
   show none=if Z i then none else E.h i
   by_cases hz:Z i
   ·rw[if_pos hz]
   ·rw[if_neg hz]
    cases hq2:E.h i with
    |none=>rfl
    |some ob =>
     exfalso
     have:(E.shut Z).h i=some ob:=by simp only[Env.shut]; rw[if_neg hz,hq2]
     rw[hq] at this; cases this
 refine(hcall F M (E.shut Z) vs (hk.shut _) hE0 (pO hk _ _ hs _ hts) (T.ay (fun _ h=>h.elim) _ (dD H.free)) (fun i ob hi=>?_) hn).mono ?_
 ·have hi':(if Z i then none else E.h i)=some ob:=hi
  split at hi'
  ·cases hi'
  ·exact hm i ob hi'
 ·rintro e w' ⟨v,t',E',rfl,rfl,⟨rfl,hh⟩,hv,hk',hext,hS,h7,h8⟩
  refine⟨v,t n,E',rfl,rfl,⟨rfl,hh⟩,hv,hk',(O9 F E Z).trans hext,fun i hi hi2=>?_,h7,h8⟩
  obtain⟨a,b,c⟩:=hS i hi hi2
  refine⟨?_,b,c⟩
  obtain⟨ob,hob⟩:=Option.isSome_iff_exists.1 a
  rw[(rZ hob).1]; rfl
theorem ah.Ol{P:Program}{f:FuncId}{args args':List V}{res:V}{h:Hz}{n j:Nat}{K:V->Hz->Prop}{KW:Nat->V->Hz->Prop}(S:aj P f args' res)(hs:T.dH (fun i=>i=j) h.au (V.aX args') (V.aX args))(_hr:res.free=true)(hK:K res ((j,none)::h)):ah P false none f args h n K KW:=by
 refine⟨.inl (wI.Ol S (fun i=>i=j) hs fun h0 h1 h2=>⟨res,(j,none)::h,rfl,?_,fun e=>(by cases e),hK⟩)⟩
 show ng h0 n none=_
 funext i
 rw[bD]
 show h0 i=if i=j then none else h.au i
 by_cases hi:i=j
 ·rw[if_pos hi,h1 i hi]
 ·rw[if_neg hi,h2 i hi]
theorem ZV{p:aP}{q:Prop'}{l a:List Clause}(h:((um p q !=0||decide ((l.length:Int)+a.length>160))||iC p l !=0||iC p a !=0)=true):Oi p q l a=false:=by
 rw[Bool.or_eq_true,Bool.or_eq_true,Bool.or_eq_true] at h
 rcases h with ((h|h)|h)|h
 ·have he:x8 p q l=um p q:=by rw[x8,h]; rfl
  rw[Oi,he,show(um p q==0)=false from beq_eq_false_iff_ne.2 (Gt h)]; rfl
 ·have:=of_decide_eq_true h
  rw[Oi,Eh,decide_eq_false (show ¬ (l.length+a.length<=160) by omega),Bool.and_false,Bool.false_and,Bool.and_false]
 ·cases hc:um p q !=0 with
  |true =>
   have he:x8 p q l=um p q:=by rw[x8,hc]; rfl
   rw[Oi,he,show(um p q==0)=false from beq_eq_false_iff_ne.2 (Gt hc)]; rfl
  |false =>
   have he:x8 p q l=iC p l:=by rw[x8,hc]; rfl
   rw[Oi,he,show(iC p l==0)=false from beq_eq_false_iff_ne.2 (Gt h)]; rfl
 ·rw[Oi,Eh,show(iC p a==0)=false from beq_eq_false_iff_ne.2 (Gt h),Bool.false_and,Bool.false_and,Bool.and_false]
theorem S.lC(p:aP)(q:Prop')(l a:List Clause)(f g:Bool)(hp:bH p)(hq:kC q)(hl:SmallK l)(ha:SmallK a):aj Tryz.prog 23 [.dat (.bW p),.dat (.prop q),.row 4 f (.clauses l),.row 4 g (.clauses a)] (.bool (Oi p q l a)):=by
 have k1:=hl.len; have k2:=ha.len
 refine aj.of Bd.lC (by simp) rfl rfl ?_
 conv=>whnf
 refine ah.pure (S.xY p q hp hq) rfl ?_
 conv=>whnf
 repeat(refine VC.mk (by first|exact id|exact fun h=>⟨h,h⟩|(intro h; rw[h]; rfl)|(intro h; (repeat' apply And.intro)<;>first|exact h|omega|(simp only[Rw.kK]; omega)|(simp only[Rw.rng]; omega))) ?_; conv=>whnf)
 conv=>whnf
 refine ah.cO (fun _=>S.kM p l f hp hl) rfl ?_
 conv=>whnf
 repeat(refine VC.mk (by first|exact id|exact fun h=>⟨h,h⟩|(intro h; rw[h]; rfl)) ?_; conv=>whnf)
 refine ah.cO (fun _=>S.kM p a g hp ha) rfl ?_
 conv=>whnf
 repeat(refine VC.mk (by first|exact id|(intro h; rw[h]; rfl)) ?_; conv=>whnf)
 refine⟨fun h1=>?_,fun h1=>?_⟩
 ·have h1':((um p q !=0||decide ((l.length:Int)+a.length>160))||iC p l !=0||iC p a !=0)=true:=h1
  conv=>whnf
  exact ak.bool (by rw[ZV h1'])
 have h1':((um p q !=0||decide ((l.length:Int)+a.length>160))||iC p l !=0||iC p a !=0)=false:=h1
 rw[Bool.or_eq_false_iff,Bool.or_eq_false_iff,Bool.or_eq_false_iff,decide_eq_false_iff_not] at h1'
 obtain⟨⟨⟨h2,h3⟩,h4⟩,h5⟩:=h1'
 have he:x8 p q l=0:=by rw[x8,h2,uQ h4]; rfl
 obtain⟨hv,hin,hk⟩:=Ja (uQ h2)
 obtain⟨hF,hpl⟩:=wS hin
 obtain⟨hR,X7⟩:=y5 (uQ h4)
 obtain⟨hA,aeJ⟩:=y5 (uQ h5)
 have hla:=hR.app hA (by omega)
 have g1:=hF.pos; have g2:=hF.states; have g3:=hF.values
 have hrk:=MQ (l:=l)
 have ZR:bI l<=3:=nK fun k hk=>(hR.cl k hk).two
 have hE:aj Tryz.prog 61 [.dat (.bW p),.int (bI l+2)] (.row 3 false (.elems (eH (DL l+3) p.states.length (iQ p)))):=by
  have:=S.rX p p.states.length (iQ p) (DL l+2) hp rfl g1 g2 rfl (by unfold iQ; omega) (by omega)
  rw[hrk]; exact this
 have hok: ∀ e∈eH (DL l+3) p.states.length (iQ p),e.counts.length=p.states.length/\yO e.counts:=fun e he=>by
  have:=wQ (by omega) e he
  exact⟨this.len,this.yO (by omega)⟩
 have G6:(eH (DL l+3) p.states.length (iQ p)).length<2^30:=by
  rw[oU]
  have h1:=o8 (b:=DL l+3) (n:=p.states.length) (by omega) g2
  have h2:iQ p*((DL l+3)^p.states.length-1)<=3*531441:=Nat.mul_le_mul (by unfold iQ; omega) (by omega)
  omega
 have hrest:Eh p q l a=(p.rules.all (oL p l a)&&(J6 p q (l++a)).isNone):=by
  rw[Eh,uQ h5,decide_eq_true (show l.length+a.length<=160 by omega)]; rfl
 have aef:Oi p q l a=((wL l (CY p q l)==l.length)&&(p.rules.all (oL p l a)&&(J6 p q (l++a)).isNone)):=by
  rw[Oi,he,hrest]; rfl
 have aeg:CY p q l=dL (jk p q) (eH (DL l+3) p.states.length (iQ p)):=rfl
 rw[aef,aeg]
 have hor:=Ub (n:=l.length) (m:=wL l (dL (jk p q) (eH (DL l+3) p.states.length (iQ p)))) Rk
 conv=>whnf
 refine ah.pure (S.tq l f (hR.small g2 g3)) rfl ?_
 conv=>whnf
 refine .mk (by simp only[okI] at *; omega) ?_
 conv=>whnf
 conv=>whnf
 refine ah.pure (hE) rfl ?_
 conv=>whnf
 refine ah.pure (S.tH p q l _ p.states.length p.values.length f false hp hq hv hR g2 g3 hok G6) rfl ?_
 conv=>whnf
 refine⟨fun h6=>?_,fun h6=>?_⟩
 ·rw[hor] at h6
  have h7:(wL l (dL (jk p q) (eH (DL l+3) p.states.length (iQ p)))==l.length)=false:=by simpa only[Bool.not_eq_true'] using h6
  conv=>whnf
  exact ak.bool (by rw[h7]; rfl)
 rw[hor] at h6
 have h7:(wL l (dL (jk p q) (eH (DL l+3) p.states.length (iQ p)))==l.length)=true:=by simpa only[Bool.not_eq_false'] using h6
 rw[h7]
 have hru:=hp.rules
 conv=>whnf
 refine aC.same [2,3,4,5] (fun i:Nat=>[(9,.int i)]) (fun i=>i<=p.rules.length/\(p.rules.take i).all (oL p l a)=true) (fun i=>p.rules.length-i) 0 rfl (by decide) rfl (fun _=>rfl) ⟨by omega,by simp⟩ ⟨⟨_,rfl,rfl⟩,trivial⟩ ?_
 conv=>whnf
 refine⟨rfl,?_⟩
 rintro i ⟨hi,hall⟩
 conv=>whnf
 refine⟨fun h8=>?_,fun h8=>?_⟩
 ·have hi':i<p.rules.length:=by simpa using h8
  have hog:=Ub (n:=l.length) (m:=(sV p (p.rules.getD i default) l a).1) D8
  conv=>whnf
  refine ah.pure (S.pY p i l a f g hp hF (Xy hF (Fj hpl) hi') hi' hR hA) rfl ?_
  rw[RD]
  conv=>whnf
  refine⟨fun h9=>?_,fun h9=>?_⟩
  ·have h9':decide (orM l.length (sV p (p.rules.getD i default) l a).1>=0)=true:=h9
   conv=>whnf
   refine ak.bool ?_
   rw[hog] at h9'
   have h10:oL p l a (p.rules.getD i default)=false:=by rw[oL]; simpa only[Bool.not_eq_true'] using h9'
   rw[jJ (p:=oL p l a) (d:=default) hi' h10]; rfl
  ·have h9':decide (orM l.length (sV p (p.rules.getD i default) l a).1>=0)=false:=h9
   conv=>whnf
   refine .mk (by simp only[okI] at *; omega) ?_
   conv=>whnf
   rw[hog] at h9'
   have h10:oL p l a (p.rules.getD i default)=true:=by rw[oL]; simpa only[Bool.not_eq_false'] using h9'
   refine⟨i+1,⟨by omega,?_⟩,by omega,⟨⟨_,rfl,rfl⟩,trivial⟩,?_,rfl⟩
   ·rw[iV (d:=default) hi' hall]; exact h10
   ·repeat' (first|exact trivial|exact⟨_,rfl,rfl⟩|constructor)
 ·have hi':p.rules.length<=i:=by simpa using h8
  rw[List.take_of_length_le hi'] at hall
  rw[hall]
  have adl:kJ 72 (jG Rw.nil (List.replicate 0 (BN (T.agg [T.nil,T.nil,T.nil])))) (jG (Rw.clauses l) []):=by
   show(0+(l.length+0))*72<=140737488355328/\0+(l.length+0)<=1152921504606846976
   omega
  conv=>whnf
  repeat(refine VC.mk (by first|(exact adl)|(simp only[kJ,jG,Rw.len]; omega)) ?_; conv=>whnf)
  refine ah.Ol (S.x9 p q (l++a) false hp hq hF (OY hv hk) hla) (And.intro (aB _) (And.intro (aB _) (And.intro (Xj rfl ?_) trivial))) ?_ ?_
  ·rfl
  ·rw[VB]; rfl
  rw[VB]
  conv=>whnf
  refine ak.bool ?_
  cases J6 p q (l++a)<;>rfl
def Xb(x y:Int):Int:=bif x !=0 then x else y
theorem Ye{x y:Int}(h:(x !=0)=true):Xb x y=x:=by rw[Xb,h]; rfl
theorem Yf{x y:Int}(h:(x !=0)=false):Xb x y=y:=by rw[Xb,h]; rfl
def Ac:List (List Int)->List (List Int)->Int
 |[],[]=>0
 |[],_::_=> -1
 |_::_,[]=>1
 |x::a,y::b=>Xb (cmpL x y) (Ac a b)
def J7(k j:Clause):Int:=Xb (Yg k.each.length j.each.length) (Xb (Ac k.each j.each) (Xb (cmpL k.values j.values) (cmpL k.some j.some)))
theorem RJ{a b:List (List Int)}{i:Nat}(ha:i<a.length)(hb:i<b.length):Ac (a.drop i) (b.drop i)=Xb (cmpL (a.getD i []) (b.getD i [])) (Ac (a.drop (i+1)) (b.drop (i+1))):=by
 rw[bg [] ha,bg [] hb]; rfl
theorem VE{a b:List (List Int)}{i:Nat}(hi:a.length<=i\/b.length<=i)(h1:i<=a.length)(h2:i<=b.length):Ac (a.drop i) (b.drop i)=if a.length<b.length then -1 else if b.length<a.length then 1 else 0:=by
 by_cases ha:a.length<=i
 ·have e:a.drop i=[]:=List.drop_eq_nil_of_le ha
  rw[e]
  by_cases hb:b.length<=i
  ·rw[List.drop_eq_nil_of_le hb,if_neg (by omega),if_neg (by omega)]; rfl
  ·rw[bg [] (by omega),if_pos (by omega)]; rfl
 ·have hb:b.length<=i:=by omega
  rw[List.drop_eq_nil_of_le hb,bg [] (by omega),if_neg (by omega),if_pos (by omega)]; rfl
theorem S.kP(k j:Clause)(hk:qH k)(hj:qH j):aj Tryz.prog 42 [.dat (.clause k),.dat (.clause j)] (.int (J7 k j)):=by
 have a1:=hk.each; have a2:=hk.values; have a3:=hk.some; have b1:=hj.each; have b2:=hj.values; have b3:=hj.some
 have a4:=hk.rows; have b4:=hj.rows
 refine aj.of Bd.kP (by simp) rfl rfl ?_
 conv=>whnf
 refine⟨fun h1=>?_,fun h1=>?_⟩
 ·conv=>whnf
  have h1':(k.each.length:Int)<j.each.length:=by simpa using h1
  refine ak.int ?_
  rw[J7,Yg,if_pos h1']; rfl
 have h1': ¬ (k.each.length:Int)<j.each.length:=by simpa using h1
 conv=>whnf
 refine⟨fun h2=>?_,fun h2=>?_⟩
 ·conv=>whnf
  have h2':(j.each.length:Int)<k.each.length:=by simpa using h2
  refine ak.int ?_
  rw[J7,Yg,if_neg h1',if_pos h2']; rfl
 have h2': ¬ (j.each.length:Int)<k.each.length:=by simpa using h2
 have hlen:k.each.length=j.each.length:=by omega
 have hC:J7 k j=Xb (Ac k.each j.each) (Xb (cmpL k.values j.values) (cmpL k.some j.some)):=by
  rw[J7,Yg,if_neg h1',if_neg h2']; rfl
 rw[hC]
 conv=>whnf
 refine aC.same [2,3] (fun i:Nat=>[(5,.int i)]) (fun i=>i<=k.each.length/\Ac k.each j.each=Ac (k.each.drop i) (j.each.drop i)) (fun i=>k.each.length-i) 0 rfl (by decide) rfl (fun _=>rfl) ⟨by omega,rfl⟩ ⟨⟨_,rfl,rfl⟩,trivial⟩ ?_
 conv=>whnf
 refine⟨rfl,?_⟩
 rintro i ⟨hi,he⟩
 conv=>whnf
 refine⟨fun h3=>?_,fun h3=>?_⟩
 ·have hi':i<k.each.length:=by simpa using h3
  rw[RJ hi' (by omega)] at he
  have a5:=a4 i; have b5:=b4 i
  conv=>whnf
  repeat(refine VC.mk (by simp only[Rw.rng] at *; first|omega|(simp_all; done)|(simp_all; omega)) ?_; conv=>whnf)
  refine ah.pure (S.qg (k.each.getD i []) (j.each.getD i []) (by omega) (by omega)) rfl ?_
  conv=>whnf
  refine⟨fun h5=>?_,fun h5=>?_⟩
  ·conv=>whnf
   exact ak.int (by rw[he,Ye h5,Ye h5])
  ·conv=>whnf
   refine .mk (by simp only[okI] at *; first|omega|(simp_all; done)|(simp_all; omega)) ?_
   conv=>whnf
   refine⟨i+1,⟨by omega,by rw[he,Yf h5]⟩,by omega,⟨⟨_,rfl,rfl⟩,trivial⟩,?_,rfl⟩
   repeat' (first|exact trivial|exact⟨_,rfl,rfl⟩|constructor)
 ·have hi':i=k.each.length:=by have:k.each.length<=i:=(by simpa using h3); omega
  have hz:Ac k.each j.each=0:=by
   rw[he,VE (.inl (by omega)) hi (by omega),if_neg (by omega),if_neg (by omega)]
  rw[hz,Yf (by decide)]
  conv=>whnf
  refine ah.pure (S.qg k.values j.values (by omega) (by omega)) rfl ?_
  conv=>whnf
  refine⟨fun h4=>?_,fun h4=>?_⟩
  ·conv=>whnf
   exact ak.int (by rw[Ye h4])
  conv=>whnf
  refine ah.pure (S.qg k.some j.some (by omega) (by omega)) rfl ?_
  conv=>whnf
  exact ak.int (by rw[Yf h4])
end Go.Proofs.YtifbibbicplneaaGreatDoor
