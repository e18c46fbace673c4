/-
 A part of the proof. No condition.
-/
import Derived.Test.YtiakcepnlcpanaaGreatDoorIe
import Derived.Test.YtiakcepnlcpanaaGreatDoorIc
import Derived.Test.YtiakcepnlcpanaaGreatDoorIf
import Derived.Test.YtiakcepnlcpanaaGreatDoorId
namespace Go.Proofs.YtiakcepnlcpanaaGreatDoor
open Go.Ab Go.Proofs
set_option maxRecDepth 100000
theorem X4{b:Nat}(hb:0<b): ∀ {n:Nat} {c:List Int},c.length=n->(∀ x∈c,0<=x/\x<b)-> ∃ v,v<b^n/\jC b n v=c:=by
 intro n
 induction n with
 |zero =>
  intro c hc _
  have:c=[]:=List.eq_nil_of_length_eq_zero hc
  subst this
  exact⟨0,by simp,rfl⟩
 |succ n ih =>
  intro c hc h
  cases c with
  |nil=>cases hc
  |cons x c =>
   obtain⟨u,hu,hd⟩:=ih (c:=c) (by simpa using hc) (fun y hy=>h y (List.mem_cons_of_mem _ hy))
   have hx:=h x (by simp)
   have hk:x.toNat<b:=by omega
   refine⟨x.toNat*b^n+u,?_,?_⟩
   ·have h1:(x.toNat+1)*b^n<=b*b^n:=Nat.mul_le_mul_right _ hk
    rw[Nat.add_mul,Nat.one_mul] at h1
    rw[Nat.pow_succ,Nat.mul_comm (b^n) b]; omega
   ·rw[Si hb hk hu,hd]
    congr 1; omega
theorem SY: ∀ n:Nat,(List.replicate n (0:Int)).sum=0:=by
 intro n
 induction n with
 |zero=>rfl
 |succ n ih=>rw[List.replicate_succ,List.sum_cons,ih]; rfl
theorem X5{b n vals:Nat}{e:Elem}(hb:0<b)(h:uH b n vals e):e∈gI b n vals:=by
 obtain⟨v,hv,hd⟩:=X4 hb h.len h.rng
 have hv0:v≠0:=by
  intro e0
  have h1:=h.pos
  rw[<- hd,e0,Du hb,SY] at h1
  omega
 have hw:=h.val
 refine List.mem_flatMap.2 ⟨e.value.toNat,List.mem_range.2 (by omega),List.mem_map.2 ⟨v-1,List.mem_range.2 (by omega),?_⟩⟩
 rw[show v-1+1=v by omega,hd]
 cases e with
 |mk val cs =>
  have:((val.toNat:Nat):Int)=val:=by have:=hw.1; simp only at this ⊢; omega
  simp only[this]
theorem X6{m:Int}(hm:1<=m): ∀ {c:List Int},(∀ x∈c,0<=x)->(0<c.sum->0<(nS m c).sum)/\0<=(nS m c).sum:=by
 intro c
 induction c with
 |nil=>intro _; simp[nS]
 |cons x c ih =>
  intro h
  have h0:=h x (by simp)
  obtain⟨a,b⟩:=ih fun y hy=>h y (List.mem_cons_of_mem _ hy)
  have e1:(x::c).sum=x+c.sum:=by simp
  have e2:(nS m (x::c)).sum=min x m+(nS m c).sum:=by simp[nS]
  rw[e1,e2]
  refine⟨fun hp=>?_,by omega⟩
  by_cases hx:x=0
  ·have:=a (by omega); omega
  ·omega
theorem QD{B m n vals:Nat}{e:Elem}(hm:1<=m)(h:uH B n vals e):oU m e∈gI (m+1) n vals:=by
 have hnn: ∀ x∈e.counts,0<=x:=fun x hx=>(h.rng x hx).1
 refine X5 (by omega) ⟨by simp[oU,nS,h.len],fun x hx=>?_,h.val,(X6 (by omega) hnn).1 h.pos⟩
 obtain⟨y,hy,rfl⟩:=List.mem_map.1 hx
 have:=hnn y hy; omega
theorem Jk{l:List Clause}{x:Elem}:dF l x=l.length↔bC l x=true:=by
 have h:=Eo (l:=l) (p:=fun k=> !holdsB k x)
 unfold dF bC
 have h2:(l.all fun k=> !(!holdsB k x))=l.all fun k=>holdsB k x:=Ah fun k _=>by rw[Bool.not_not]
 rw[h2] at h
 rw[<- h,beq_iff_eq]
theorem O1{fire:Elem->Option Elem}{l a:List Clause}{s:Nat×Elem}{e:Elem}(hs:s.1<=l.length):(stepG fire l a s e).1=l.length↔s.1=l.length/\ ∀ x,fire e=some x->bC l e=true->bC a e=true->bC l x=true:=by
 have hle:=Gi (fire:=fire) (a:=a) (e:=e) hs
 unfold stepG at hle ⊢
 cases hf:fire e with
 |none=>exact⟨fun h=>⟨h,fun x hx=>by cases hx⟩,fun h=>h.1⟩
 |some x =>
  rw[hf] at hle
  simp only at hle ⊢
  cases hc:(bC l e&&bC a e&&(decide (dF l x<l.length)&&(decide (dF l x<s.1)||dF l x==s.1&&decide (jd e<jd s.2)))) with
  |true =>
   rw[Bool.and_eq_true,Bool.and_eq_true,Bool.and_eq_true] at hc
   obtain⟨⟨c1,c2⟩,c3,_⟩:=hc
   have c3:=of_decide_eq_true c3
   refine⟨fun h=>?_,fun h=>?_⟩
   ·have h':dF l x=l.length:=h
    omega
   ·have:=Jk.2 (h.2 x rfl c1 c2)
    omega
  |false =>
   refine⟨fun h=>⟨h,fun y hy c1 c2=>?_⟩,fun h=>h.1⟩
   cases hy
   have h':s.1=l.length:=h
   rw[c1,c2,Bool.true_and,Bool.true_and,h'] at hc
   refine Jk.1 ?_
   have hlt:dF l x<=l.length:=List.findIdx_le_length
   by_cases hq:dF l x<l.length
   ·rw[decide_eq_true hq] at hc; simp at hc
   ·omega
theorem Gu{fire:Elem->Option Elem}{l a:List Clause}{es:List Elem}:(Ep fire l a es).1=l.length↔ ∀ e∈es,∀ x,fire e=some x->bC l e=true->bC a e=true->bC l x=true:=by
 have: ∀ (es:List Elem) (s:Nat×Elem),s.1<=l.length->((es.foldl (stepG fire l a) s).1=l.length↔s.1=l.length/\ ∀ e∈es,∀ x,fire e=some x->bC l e=true->bC a e=true->bC l x=true):=by
  intro es
  induction es with
  |nil=>intro s _; exact⟨fun h=>⟨h,fun e he=>by cases he⟩,fun h=>h.1⟩
  |cons e es ih =>
   intro s hs
   rw[List.foldl_cons,ih _ (Gi hs),O1 hs]
   constructor
   ·rintro⟨⟨h1,h2⟩,h3⟩
    refine⟨h1,fun y hy=>?_⟩
    rcases List.mem_cons.1 hy with rfl|hy
    ·exact h2
    ·exact h3 y hy
   ·rintro⟨h1,h2⟩
    exact⟨⟨h1,h2 e (by simp)⟩,fun y hy=>h2 y (List.mem_cons_of_mem _ hy)⟩
 rw[Ep,this es _ (Nat.le_refl _)]
 exact⟨fun h=>h.2,fun h=>⟨rfl,h⟩⟩
theorem VE{l:List Clause}{es:List Elem}:tC l es=l.length↔ ∀ k∈l,∀ e∈es,holdsB k e=true:=by
 have h:=Eo (l:=l) (p:=fun k=>es.any fun e=> !holdsB k e)
 unfold tC
 rw[<- beq_iff_eq,h,List.all_eq_true]
 constructor
 ·intro g k hk e he
  have:=g k hk
  rw[Bool.not_eq_true',List.any_eq_false] at this
  simpa using this e he
 ·intro g k hk
  rw[Bool.not_eq_true',List.any_eq_false]
  intro e he; simp[g k hk e he]
def Ij(p:aW)(q:Prop')(l a:List Clause):Bool:=((wP p q l==0)&&(tC l (vT p q l)==l.length))&&(List.range p.rules.length).all fun(r:Nat)=>(uZ p r l a==0)&&((nX p (p.rules.getD r default) l a).1==l.length)
theorem Qs{p:aW}{q:Prop'}{l a:List Clause}:Ij p q l a=true↔(wP p q l=0/\ ∀ k∈l,∀ e∈vT p q l,holdsB k e=true)/\ ∀ r,r<p.rules.length->uZ p r l a=0/\ ∀ e∈gI (zf (l++a)+3) p.states.length (kD p),∀ x,aX (p.rules.getD r default) e=some x->bC l e=true->bC a e=true->bC l x=true:=by
 unfold Ij
 rw[Bool.and_eq_true,Bool.and_eq_true,beq_iff_eq,beq_iff_eq,VE,List.all_eq_true]
 constructor
 ·rintro⟨⟨h1,h2⟩,h3⟩
  refine⟨⟨h1,h2⟩,fun r hr=>?_⟩
  have:=h3 r (List.mem_range.2 hr)
  rw[Bool.and_eq_true,beq_iff_eq,beq_iff_eq] at this
  exact⟨this.1,Gu.1 this.2⟩
 ·rintro⟨⟨h1,h2⟩,h3⟩
  refine⟨⟨h1,h2⟩,fun r hr=>?_⟩
  obtain⟨g1,g2⟩:=h3 r (List.mem_range.1 hr)
  rw[Bool.and_eq_true,beq_iff_eq,beq_iff_eq]
  exact⟨g1,Gu.2 g2⟩
theorem S.oP(p:aW)(q:Prop')(l a:List Clause)(f g:Bool)(hp:dI p)(hq:oO q)(hl:SmallK l)(ha:SmallK a):au Tryz.prog 5 [.dat (.eU p),.dat (.prop q),.row 4 f (.clauses l),.row 4 g (.clauses a)] (.bool (Ij p q l a)):=by
 refine au.of Bd.oP (by simp) rfl rfl ?_
 conv=>whnf
 refine ah.pure (S.dP p q l f hp hq hl) rfl ?_
 rw[OX]
 conv=>whnf
 repeat(refine VC.mk (by first|exact id|(intro h; rw[h]; rfl)) ?_; conv=>whnf)
 cases he:wP p q l !=0 with
 |true =>
  conv=>whnf
  refine Fork.mk (fun _=>?_) (fun q=>absurd (q.symm.trans ((Bool.true_or _))) Bool.false_ne_true)
  conv=>whnf
  exact aA.bool (by rw[Ij,show(wP p q l==0)=false from beq_eq_false_iff_ne.2 (Zl he)]; rfl)
 |false =>
  have he0:wP p q l=0:=FQ he
  have hor:(orM l.length (tC l (vT p q l)) != -1)= !(tC l (vT p q l)==l.length):=by
   unfold orM
   cases hb:tC l (vT p q l)==l.length with
   |true=>rfl
   |false=>simp only[cond_false]; rw[bne_iff_ne.2 (by omega)]; rfl
  rw[he0]
  conv=>whnf
  refine⟨fun h1=>?_,fun h1=>?_⟩
  ·have h1':(orM l.length (tC l (vT p q l)) != -1)=true:=h1
   conv=>whnf
   refine aA.bool ?_
   rw[hor,Bool.not_eq_true'] at h1'
   rw[Ij,h1',Bool.and_false]; rfl
  have h1':(orM l.length (tC l (vT p q l)) != -1)=false:=h1
  rw[hor,Bool.not_eq_false'] at h1'
  have hru:=hp.rules
  have hst:Ij p q l a=(List.range p.rules.length).all fun(r:Nat)=>(uZ p r l a==0)&&((nX p (p.rules.getD r default) l a).1==l.length):=by rw[Ij,he0,h1']; rfl
  conv=>whnf
  refine aU.same [2,3,4] (fun i:Nat=>[(11,.int i)]) (fun i=>i<=p.rules.length/\((List.range i).all fun(r:Nat)=>(uZ p r l a==0)&&((nX p (p.rules.getD r default) l a).1==l.length))=true) (fun i=>p.rules.length-i) 0 rfl (by decide) rfl (fun _=>rfl) ⟨by omega,by simp⟩ ⟨⟨_,rfl,rfl⟩,trivial⟩ ?_
  conv=>whnf
  refine⟨rfl,?_⟩
  rintro i ⟨hi,hall⟩
  conv=>whnf
  refine⟨fun h3=>?_,fun h3=>?_⟩
  ·have hi':i<p.rules.length:=by simpa using h3
   have hS:=S.fA p i l a f g hp hl ha
   have hnx:((List.range (i+1)).all fun(r:Nat)=>(uZ p r l a==0)&&((nX p (p.rules.getD r default) l a).1==l.length))=((uZ p i l a==0)&&((nX p (p.rules.getD i default) l a).1==l.length)):=by
    rw[List.range_succ,List.all_append,hall]; simp
   have hle:(nX p (p.rules.getD i default) l a).1<=l.length:=Gj
   conv=>whnf
   cases hz:uZ p i l a !=0 with
   |true =>
    rw[BH rfl hz] at hS
    refine ah.pure hS rfl ?_
    conv=>whnf
    repeat(refine VC.mk (by first|exact id|(intro h; rw[h]; rfl)) ?_; conv=>whnf)
    refine Fork.mk (fun _=>?_) (fun q=>absurd (q.symm.trans ((by rw[hz]; rfl:(uZ p i l a !=0||(0:Int) != -1)=true))) Bool.false_ne_true)
    conv=>whnf
    refine aA.bool ?_
    rw[hst,List.all_eq_false]
    exact⟨i,List.mem_range.2 hi',by rw[show(uZ p i l a==0)=false from beq_eq_false_iff_ne.2 (Zl hz)]; simp⟩
   |false =>
    have hz0:uZ p i l a=0:=FQ hz
    have hV:JR p i l a= .dM (VD l.length (nX p (p.rules.getD i default) l a)++[.int 0]):=by
     rw[JR,hz,hz0]; rfl
    rw[hV] at hS
    refine ah.pure hS rfl ?_
    conv=>whnf
    repeat(refine VC.mk (by first|exact id|(intro h; rw[h]; rfl)) ?_; conv=>whnf)
    have hor2:(orM l.length (nX p (p.rules.getD i default) l a).1 != -1)= !((nX p (p.rules.getD i default) l a).1==l.length):=by
     unfold orM
     cases hb:(nX p (p.rules.getD i default) l a).1==l.length with
     |true=>rfl
     |false=>simp only[cond_false]; rw[bne_iff_ne.2 (by omega)]; rfl
    refine⟨fun h4=>?_,fun h4=>?_⟩
    ·have h4':(orM l.length (nX p (p.rules.getD i default) l a).1 != -1)=true:=by simpa using h4
     rw[hor2,Bool.not_eq_true'] at h4'
     conv=>whnf
     refine aA.bool ?_
     rw[hst,List.all_eq_false]
     exact⟨i,List.mem_range.2 hi',by rw[h4',Bool.and_false]; decide⟩
    ·have h4':(orM l.length (nX p (p.rules.getD i default) l a).1 != -1)=false:=by simpa using h4
     rw[hor2,Bool.not_eq_false'] at h4'
     conv=>whnf
     refine .mk (by simp only[okI] at *; first|omega|(simp_all; done)|(simp_all; omega)) ?_
     conv=>whnf
     refine⟨i+1,⟨by omega,?_⟩,by omega,⟨⟨_,rfl,rfl⟩,trivial⟩,?_,rfl⟩
     ·rw[hnx,hz0,h4']; rfl
     ·repeat' (first|exact trivial|exact⟨_,rfl,rfl⟩|constructor)
  ·have hi':i=p.rules.length:=by have: ¬ ((i:Int)<(p.rules.length:Int)):=of_decide_eq_false h3; omega
   subst hi'
   conv=>whnf
   exact aA.bool (by rw[hst,hall])
theorem VF{p:aW}{r:Rule}{m a:List Clause}{B:Nat}(hcm: ∀ k∈m,zD p.states.length p.values.length k)(hca: ∀ k∈a,zD p.states.length p.values.length k)
  (hstep: ∀ e∈gI (zf (m++a)+3) p.states.length (kD p),∀ x,aX r e=some x->bC m e=true->bC a e=true->bC m x=true) :
  ∀ e,uH B p.states.length (kD p) e-> ∀ x,aX r e=some x->bC m e=true->bC a e=true->bC m x=true:=by
 intro e hu x hf h1 h2
 have hnn: ∀ x∈e.counts,0<=x:=fun x hx=>(hu.rng x hx).1
 have hrm:=Gs (l:=m++a)
 have hra:bF m<=bF (m++a):=by rw[Gl]; omega
 have hrb:bF a<=bF (m++a):=by rw[Gl]; omega
 have hlo:oU ((zf (m++a):Int)+2) e∈gI (zf (m++a)+3) p.states.length (kD p):=by
  have:=QD (m:=zf (m++a)+2) (by omega) hu
  exact this
 have hag:=Jj (m:=(zf (m++a):Int)+2) (e:=e) (by omega) hnn
 have e1:bC m (oU ((zf (m++a):Int)+2) e)=true:=by
  rw[<- uK hcm hu.len (m:=(zf (m++a):Int)+2) (by omega) (show e.value=(oU ((zf (m++a):Int)+2) e).value from rfl) hag]; exact h1
 have e2:bC a (oU ((zf (m++a):Int)+2) e)=true:=by
  rw[<- uK hca hu.len (m:=(zf (m++a):Int)+2) (by omega) (show e.value=(oU ((zf (m++a):Int)+2) e).value from rfl) hag]; exact h2
 rcases OZ (r:=r) (a:=e) (b:=oU ((zf (m++a):Int)+2) e) (m:=(zf (m++a):Int)) (by omega) rfl hag with ⟨u1,_⟩|⟨x1,y1,u1,u2,u3,u4⟩
 ·rw[hf] at u1; cases u1
 ·rw[hf] at u1
  cases u1
  have h5:=hstep _ hlo y1 u2 e1 e2
  have hxl:x.counts.length=p.states.length:=by rw[Dp hf,hu.len]
  rw[uK hcm hxl (m:=(zf (m++a):Int)) (by omega) u3 u4]; exact h5
abbrev hE(l:List Clause)(f:Bool)(es:List (Int×List Bool))(d:List Bool):Hz:=[(0,some (yw l f 1)),(1,some (xR es)),(2,some (rowB d))]
theorem fV.ofE{l:List Clause}{f:Bool}{es':List (Int×List Bool)}{d':List Bool}{h0 h:Hz}{n:Nat}{v u:V}{post:T->Hp->Prop}(Z:Nat->Prop)(q0:(h0.aj 0).isSome=true)(q1:(h0.aj 1).isSome=true)(q2:(h0.aj 2).isSome=true)(F:Df Z h (hE l f es' d'))(hu:u.free=true)(hv:T.sub Z h.aj u.aH v.aH)(hp:post u.aH (hE l f es' d').aj):fV h0 n post v h:=by
 refine fV.Oo (h2:=hE l f es' d') (u:=u) Z F ?_ hu hv hp
 intro i o ho
 have hG:=kG (show qP 3 (hE l f es' d')=true from rfl) i o.aG (aJ ho)
 have hsome: ∀ i,i<3->(h0.aj i).isSome=true:=fun i hi=>by
  match i,hi with
  |0,_=>exact q0
  |1,_=>exact q1
  |2,_=>exact q2
  |k+3,hk=>exact absurd hk (by omega)
 exact⟨hsome i hG.1,T.ak (fun i hi=>hsome i hi) _ hG.2.1,hG.2.2⟩
def rM(l:List Clause)(d:List Bool)(i:Nat)(e:Elem):Bool:= !((fZ l e).getD i false)&&(List.range (fZ l e).length).all fun j=>(fZ l e).getD j false||(d.set i true).getD j false
def Iw(l:List Clause)(d:List Bool)(i:Nat)(es:List Elem):Bool:= !(es.any (rM l d i))
set_option maxHeartbeats 2000000 in
theorem S.Iy(p:aW)(l:List Clause)(f:Bool)(es:List (Int×List Bool))(d:List Bool)(i:Nat)(hp:dI p)(hn0:0<p.states.length)(Dl:p.states.length<=6)(hvs:p.values.length<=3)(hl:jW p.states.length p.values.length l)(hd:d.length=l.length)(hi:i<l.length)(hdi:d.getD i false=false)(hg:iW p.states.length l es) :
  aF Tryz.prog 24 (V.aS [.ptr 0 0 0,.dat (.eU p),.own 2,.int i]) (Hz.aj (hE l f es d)) 3 (fun t hp=> ∃ es',iW p.states.length l es'/\t=(V.bool (Iw l d i (gI (zf l+3) p.states.length (kD p)))).aH/\hp=Hz.aj (hE l f es' d)):=by
 have hsm:=hl.small Dl hvs
 have nJ:kD p<=3:=by unfold kD; omega
 have hrk:=Gs (l:=l)
 have aad:bF l<=3:=sZ fun k hk=>(hl.cl k hk).two
 have UJ:zf l+3<=9:=by omega
 have hsl:=hl.len
 have hRk:=qF (l:=l)
 have hU:au Tryz.prog 45 [.dat (.eU p),.int (bF l+2)] (.row 3 false (.elems (gI (zf l+3) p.states.length (kD p)))):=by
  have:=S.dX p p.states.length (kD p) (zf l+2) hp rfl hn0 Dl rfl nJ (by omega)
  rw[hrk]; exact this
 have MG:(gI (zf l+3) p.states.length (kD p)).length<=3*531441:=by
  rw[tq]
  have:=wW (b:=zf l+3) (n:=p.states.length) (by omega) Dl
  exact Nat.mul_le_mul nJ (by omega)
 have hok:=y9 (b:=zf l+3) (n:=p.states.length) (vals:=kD p) (by omega)
 generalize gI (zf l+3) p.states.length (kD p)=us at hU MG hok ⊢
 have hback:(d.set i true).set i false=d:=by
  rw[List.set_set]
  have:=Iu (l:=d) (i:=i)
  rw[hdi] at this; exact this
 refine lV.ofD (nx:=3) (h0:=hE l f es d) Bd.vw Tryz.call44 (by simp) ⟨_,_,es,hg,rfl,rfl⟩ rfl rfl ?_
 conv=>whnf
 repeat(refine VC.mk (by first|(simp only[Rw.rng,Int.toNat_natCast]; omega)|(simp only[okI] at *; first|omega|(simp_all; done)|(simp_all; omega))) ?_; conv=>whnf)
 refine ah.pure (hU) rfl ?_
 conv=>whnf
 have hml:(d.set i true).length=l.length:=by rw[List.length_set,hd]
 refine aU.Et (ι:=Nat×List (Int×List Bool)) 100 [0,6,7,22,23] (fun x=>[(24,.int x.1)]) (fun x=>[(0,yw l f 1),(1,xR x.2),(2,rowB (d.set i true)),(4,.box 70 0 (.own 2)),(5,.box 3 0 (.int i))]) (fun x=>x.1<=us.length/\iW p.states.length l x.2/\(us.take x.1).any (rM l d i)=false) (fun x=>us.length-x.1) (0,es) [0,1,2,4,5] rfl (by decide) (fun _=>rfl) ⟨Nat.zero_le _,hg,rfl⟩ ?_ ?_ ?_
 ·exact⟨⟨_,rfl,.eq rfl⟩,trivial⟩
 ·refine⟨⟨rfl,(fun _=>rfl),rfl,rfl,_,rfl,rfl,rfl,bG.of_eq rfl⟩,okF rfl (fun _=>rfl) rfl rfl rfl ⟨rfl,rfl⟩ rfl,okF rfl (fun _=>rfl) rfl rfl rfl ⟨rfl,rfl⟩ rfl,⟨rfl,(fun _=>rfl),rfl,rfl,_,rfl,rfl,rfl,bG.of_eq rfl⟩,okF rfl (fun _=>rfl) rfl rfl rfl ⟨rfl,rfl⟩ rfl,trivial⟩
 conv=>whnf
 refine⟨⟨⟨_,rfl,.eq rfl⟩,⟨_,rfl,.eq rfl⟩,⟨_,rfl,.eq rfl⟩,⟨_,rfl,.eq rfl⟩,⟨_,rfl,.eq rfl⟩,trivial⟩,rfl,?_⟩
 rintro⟨k,em⟩ ⟨hk,hem,hany⟩
 conv=>whnf
 refine⟨fun h3=>?_,fun h3=>?_⟩
 ·have hk':k<us.length:=by simpa using h3
  have hue:=hok _ (getM (d:=default) hk')
  have hte:=hl.at hue UJ nJ hn0 Dl
  have zG:(us.getD k default).counts.length=p.states.length:=hue.len
  conv=>whnf
  refine .mk (by simp only[Rw.rng] at *; first|omega|(simp_all; done)|(simp_all; omega)) ?_
  conv=>whnf
  refine ah.row hsm hte (show iW (us.getD k default).counts.length l em by rw[zG]; exact hem) rfl rfl (by decide) rfl (by decide) (by decide) (fun J6 rP=>?_)
  replace rP:iW (us.getD k default).counts.length l J6:=rP
  rw[zG] at rP
  have hrl:(fZ l (us.getD k default)).length=l.length:=qG
  have hnext:(us.take (k+1)).any (rM l d i)=rM l d i (us.getD k default):=by
   rw[List.take_add_one,List.any_append,hany]
   have:us[k]? =some (us.getD k default):=by rw[List.getElem?_eq_getElem hk']; simp[hk']
   rw[this]; simp
  conv=>whnf
  repeat(refine VC.mk (by first|(show 0<=(i:Int)/\(i:Int)<(fZ l (us.getD k default)).length; rw[hrl]; omega)|exact fun h=>⟨h,h⟩) ?_; conv=>whnf)
  show ah Tryz.prog false (some (!(fZ l (us.getD k default)).getD i false)) _ _ _ _ _ _
  cases hr:(fZ l (us.getD k default)).getD i false with
  |true =>
   have hnx:(us.take (k+1)).any (rM l d i)=false:=by rw[hnext,rM,hr]; rfl
   refine ah.Vq (.bool true) rfl ?_
   conv=>whnf
   refine VC.mk id ?_
   conv=>whnf
   refine Fork.mk (fun q=>absurd (q.symm.trans (show(!(fZ l (us.getD k default)).getD i false&&true)=false by rw[hr]; rfl)).symm Bool.false_ne_true) (fun _=>?_)
   conv=>whnf
   refine .mk (by simp only[okI] at *; first|omega|(simp_all; done)|(simp_all; omega)) ?_
   conv=>whnf
   refine⟨(k+1,J6),[0,1,2,4,5],⟨by show k+1<=_; omega,rP,hnx⟩,by show us.length-(k+1)<us.length-k; omega,⟨⟨_,rfl,.eq rfl⟩,trivial⟩,⟨⟨_,rfl,.eq rfl⟩,⟨_,rfl,.eq rfl⟩,⟨_,rfl,.eq rfl⟩,⟨_,rfl,.eq rfl⟩,⟨_,rfl,.eq rfl⟩,trivial⟩,⟨rfl,(fun _=>rfl),rfl,rfl,_,rfl,rfl,rfl,bG.of_eq rfl⟩,okF rfl (fun _=>rfl) rfl rfl rfl ⟨rfl,rfl⟩ rfl,okF rfl (fun _=>rfl) rfl rfl rfl ⟨rfl,rfl⟩ rfl,⟨rfl,(fun _=>rfl),rfl,rfl,_,rfl,rfl,rfl,bG.of_eq rfl⟩,okF rfl (fun _=>rfl) rfl rfl rfl ⟨rfl,rfl⟩ rfl,trivial⟩
  |false =>
   have hf:rM l d i (us.getD k default)=(List.range (fZ l (us.getD k default)).length).all fun j=>(fZ l (us.getD k default)).getD j false||(d.set i true).getD j false:=by rw[rM,hr]; rfl
   refine ah.on (ah.lend (S.Gt (fZ l (us.getD k default)) (d.set i true) false false (by rw[hrl]; omega) (by rw[hrl,hml]; omega)) ⟨aC _,Me trivial rfl,trivial⟩ rfl rfl ?_)
   rw[<- hf]
   conv=>whnf
   refine VC.mk id ?_
   conv=>whnf
   refine⟨fun h4=>?_,fun h4=>?_⟩
   ·have h4':rM l d i (us.getD k default)=true:=by
     have h4:(!(fZ l (us.getD k default)).getD i false&&rM l d i (us.getD k default))=true:=h4
     rw[hr] at h4; exact h4
    have hQ:Iw l d i us=false:=by
     rw[Iw,<- List.take_append_drop (k+1) us,List.any_append,hnext,h4']; rfl
    rw[hQ]
    conv=>whnf
    refine S9.walk Bd.fO (by simp) rfl rfl rfl ?_
    conv=>whnf
    repeat(refine VC.mk (by simp only[Rw.rng,Int.toNat_natCast,List.length_set]; omega) ?_; conv=>whnf)
    refine fV.ofE (l:=l) (f:=f) (es':=J6) (d':=d) (u:=.dM []) (fun _=>False) rfl rfl rfl ⟨dn (Z:=fun _=>False) rfl (fun q=>q),dn (Z:=fun _=>False) rfl (fun q=>q),dn (Z:=fun _=>False) (show some (rowB ((d.set i true).set i false))=some (rowB d) by rw[hback]) (fun q=>q),trivial⟩ rfl (aC _) ⟨hE l f J6 d,rfl,?_⟩
    conv=>whnf
    exact fV.ofE (l:=l) (f:=f) (es':=J6) (d':=d) (u:=.bool false) (fun _=>False) rfl rfl rfl ⟨dn (Z:=fun _=>False) rfl (fun q=>q),dn (Z:=fun _=>False) rfl (fun q=>q),dn (Z:=fun _=>False) rfl (fun q=>q),trivial⟩ rfl (aC _) ⟨J6,rP,rfl,rfl⟩
   ·have h4':rM l d i (us.getD k default)=false:=by
     have h4:(!(fZ l (us.getD k default)).getD i false&&rM l d i (us.getD k default))=false:=h4
     rw[hr] at h4; exact h4
    have hnx:(us.take (k+1)).any (rM l d i)=false:=by rw[hnext,h4']
    conv=>whnf
    refine .mk (by simp only[okI] at *; first|omega|(simp_all; done)|(simp_all; omega)) ?_
    conv=>whnf
    refine⟨(k+1,J6),[0,1,2,4,5],⟨by show k+1<=_; omega,rP,hnx⟩,by show us.length-(k+1)<us.length-k; omega,⟨⟨_,rfl,.eq rfl⟩,trivial⟩,⟨⟨_,rfl,.eq rfl⟩,⟨_,rfl,.eq rfl⟩,⟨_,rfl,.eq rfl⟩,⟨_,rfl,.eq rfl⟩,⟨_,rfl,.eq rfl⟩,trivial⟩,⟨rfl,(fun _=>rfl),rfl,rfl,_,rfl,rfl,rfl,bG.of_eq rfl⟩,okF rfl (fun _=>rfl) rfl rfl rfl ⟨rfl,rfl⟩ rfl,okF rfl (fun _=>rfl) rfl rfl rfl ⟨rfl,rfl⟩ rfl,⟨rfl,(fun _=>rfl),rfl,rfl,_,rfl,rfl,rfl,bG.of_eq rfl⟩,okF rfl (fun _=>rfl) rfl rfl rfl ⟨rfl,rfl⟩ rfl,trivial⟩
 ·have hk':k=us.length:=by have: ¬ ((k:Int)<(us.length:Int)):=of_decide_eq_false h3; omega
  subst hk'
  rw[List.take_length] at hany
  have hQ:Iw l d i us=true:=by rw[Iw,hany]; rfl
  rw[hQ]
  conv=>whnf
  refine S9.walk Bd.fO (by simp) rfl rfl rfl ?_
  conv=>whnf
  repeat(refine VC.mk (by simp only[Rw.rng,Int.toNat_natCast,List.length_set]; omega) ?_; conv=>whnf)
  refine fV.ofE (l:=l) (f:=f) (es':=em) (d':=d) (u:=.dM []) (fun _=>False) rfl rfl rfl ⟨dn (Z:=fun _=>False) rfl (fun q=>q),dn (Z:=fun _=>False) rfl (fun q=>q),dn (Z:=fun _=>False) (show some (rowB ((d.set i true).set i false))=some (rowB d) by rw[hback]) (fun q=>q),trivial⟩ rfl (aC _) ⟨hE l f em d,rfl,?_⟩
  conv=>whnf
  exact fV.ofE (l:=l) (f:=f) (es':=em) (d':=d) (u:=.bool true) (fun _=>False) rfl rfl rfl ⟨dn (Z:=fun _=>False) rfl (fun q=>q),dn (Z:=fun _=>False) rfl (fun q=>q),dn (Z:=fun _=>False) rfl (fun q=>q),trivial⟩ rfl (aC _) ⟨em,hem,rfl,rfl⟩
theorem aak{h:Hz}{j:Nat}{c:Clause}{Z:Nat->Prop}(hz:Z j)(q:h.get j=some (.row 36 4 .nil [.dat (.clause c)])):T.sub Z h.aj (V.row 4 false (.clauses [c])).aH (V.own j).aH:=by
 show T.sub Z h.aj (.sl 4 false ([c].map kT)) (.own j)
 simp only[T.sub]
 refine⟨trivial,hz,wO [c],by decide,36,?_⟩
 have:=aJ q; simpa [OV.aG,Rw.aS,V.aS,V.aH,Dat.aH] using this
def pJ(p:aW)(l:List Clause)(c:Clause):Int:=bif zC p !=0 then zC p else bif mW p l !=0 then mW p l else xP p c
def VG(l:List Clause)(c:Clause)(us:List Elem):Bool:= !(us.any fun e=> !(holdsB c e)&&bC l e)
def X7(p:aW)(l:List Clause):List Elem:=gI (zf l+3) p.states.length (kD p)
def vJ(p:aW)(l:List Clause)(c:Clause):Bool:=pJ p l c==0&&VG l c (X7 p (l++[c]))
def EL(p:aW)(l:List Clause)(c:Clause):V:=.dM [.bool (vJ p l c),.int (pJ p l c)]
theorem Tc{l:List Clause}{c:Clause}{e:Elem}:rM (l++[c]) (List.replicate (l++[c]).length false) l.length e=(!(holdsB c e)&&bC l e):=by
 have h0:(fZ (l++[c]) e).getD l.length false=holdsB c e:=by simp[fZ]
 unfold rM
 rw[h0]
 congr 1
 rw[Bool.eq_iff_iff,bC,List.all_eq_true,List.all_eq_true]
 have hlen:(fZ (l++[c]) e).length=l.length+1:=by simp[fZ]
 rw[hlen]
 constructor
 ·intro h k hk
  obtain⟨i,hi,rfl⟩:=List.getElem_of_mem hk
  have:=h i (List.mem_range.2 (by omega))
  have h1:(fZ (l++[c]) e).getD i false=holdsB l[i] e:=by
   simp only[fZ,List.map_append,List.getD_eq_getElem?_getD]
   rw[List.getElem?_append_left (by simpa using hi)]; simp[hi]
  have h2:((List.replicate (l++[c]).length false).set l.length true).getD i false=false:=by
   rw[List.getD_eq_getElem?_getD,List.getElem?_set_ne (by omega)]; simp[List.getElem?_replicate]; split<;>rfl
  rw[h1,h2,Bool.or_false] at this
  exact this
 ·intro h i hi
  have hi:=List.mem_range.1 hi
  by_cases e0:i=l.length
  ·subst e0
   have h2:((List.replicate (l++[c]).length false).set l.length true).getD l.length false=true:=by
    rw[List.getD_eq_getElem?_getD,List.getElem?_set_self (by simp)]; rfl
   rw[h2,Bool.or_true]
  ·have hi':i<l.length:=by omega
   have h1:(fZ (l++[c]) e).getD i false=holdsB l[i] e:=by
    simp only[fZ,List.map_append,List.getD_eq_getElem?_getD]
    rw[List.getElem?_append_left (by simpa using hi')]; simp[hi']
   rw[h1,h l[i] (List.getElem_mem hi'),Bool.true_or]
theorem VH{l:List Clause}{c:Clause}{us:List Elem}:Iw (l++[c]) (List.replicate (l++[c]).length false) l.length us=VG l c us:=by
 unfold Iw VG
 rw[show rM (l++[c]) (List.replicate (l++[c]).length false) l.length=fun e=> !(holdsB c e)&&bC l e from funext fun e=>Tc]
theorem Gv{p:aW}{l:List Clause}{c:Clause}{k:Int}(he:pJ p l c=k)(hk:(k !=0)=true):EL p l c= .dM [.bool false,.int k]:=by
 have:(k==0)=false:=by simpa using hk
 rw[EL,vJ,he,this]; rfl
theorem ah.entails{p:aW}{l:List Clause}{f:Bool}{es:List (Int×List Bool)}{d:List Bool}{i:Nat}{h:Hz}{a b c n:Nat}{K:V->Hz->Prop}{KW:Nat->V->Hz->Prop}(hp:dI p)(hn0:0<p.states.length)(Dl:p.states.length<=6)(hvs:p.values.length<=3)(hl:jW p.states.length p.values.length l)(hd:d.length=l.length)(hi:i<l.length)(hdi:d.getD i false=false)(hg:iW p.states.length l es)
  (ha:h.get a=some (yw l f b)) (hb:h.get b=some (xR es)) (hc:h.get c=some (rowB d)) (hn:h.get n=none) (nd:([a,b,c]++[n]).Nodup)
  (hK: ∀ es',iW p.states.length l es'->K (.bool (Iw l d i (X7 p l))) ((a,some (yw l f b))::(b,some (xR es'))::(c,some (rowB d))::(n,none)::h)):ah Tryz.prog false none 24 [.ptr a 0 0,.dat (.eU p),.own c,.int i] h n K KW:=by
 refine ah.aal (pre:=hE l f es d) [a,b,c] (S.Iy p l f es d i hp hn0 Dl hvs hl hd hi hdi hg) rfl ?_ rfl rfl rfl ⟨⟨_,ha,rfl⟩,⟨_,hb,kL rfl _⟩,⟨_,hc,?_⟩,trivial⟩ hn nd ?_
 ·rfl
 ·exact kL rfl _
 ·rintro t hp ⟨es',hg',rfl,rfl⟩
  exact⟨.bool (Iw l d i (X7 p l)),[some (yw l f b),some (xR es'),some (rowB d),none],rfl,rfl,⟨rfl,congrArg some (kL rfl _).symm,congrArg some (kL rfl _).symm,rfl,trivial⟩,hK es' hg'⟩
set_option maxHeartbeats 1000000 in
theorem S.jJ(p:aW)(l:List Clause)(c:Clause)(f:Bool)(hp:dI p)(hl:SmallK l)(hc:qY c):au Tryz.prog 8 [.dat (.eU p),.row 4 f (.clauses l),.dat (.clause c)] (EL p l c):=by
 refine au.of Bd.jJ (by simp) rfl rfl ?_
 conv=>whnf
 refine ah.pure (S.eY p hp) rfl ?_
 conv=>whnf
 refine⟨fun h1=>?_,fun h1=>?_⟩
 ·have he:pJ p l c=zC p:=by rw[pJ,show(zC p !=0)=true from h1]; rfl
  conv=>whnf
  exact aA.eqv (congrArg V.aH (Gv he h1))
 conv=>whnf
 refine ah.lend (S.vk p l false f hp hl) ⟨aC _,MH trivial rfl rfl,trivial⟩ rfl rfl ?_
 conv=>whnf
 refine⟨fun h2=>?_,fun h2=>?_⟩
 ·have he:pJ p l c=mW p l:=by rw[pJ,show(zC p !=0)=false from h1,show(mW p l !=0)=true from h2]; rfl
  conv=>whnf
  exact aA.eqv (congrArg V.aH (Gv he h2))
 conv=>whnf
 refine ah.pure (S.bT p c hp hc) rfl ?_
 conv=>whnf
 refine⟨fun h3=>?_,fun h3=>?_⟩
 ·have he:pJ p l c=xP p c:=by rw[pJ,show(zC p !=0)=false from h1,show(mW p l !=0)=false from h2]; rfl
  conv=>whnf
  exact aA.eqv (congrArg V.aH (Gv he h3))
 obtain⟨hF,_⟩:=yY (FQ h1)
 obtain⟨hR,abR⟩:=Aj (FQ h2)
 have hC:=QC (FQ h3)
 have g1:=hF.pos; have g2:=hF.states; have g3:=hF.values
 have hR2:jW p.states.length p.values.length (l++[c]):=hR.app ⟨fun k hk=>by rw[List.mem_singleton] at hk; subst hk; exact hC,by simp⟩ (by simp; omega)
 have hsm:=hR2.small g2 g3
 have hll:(l++[c]).length=l.length+1:=by simp
 have he:pJ p l c=0:=by rw[pJ,show(zC p !=0)=false from h1,show(mW p l !=0)=false from h2]; exact FQ h3
 have hV:EL p l c= .dM [.bool (Iw (l++[c]) (List.replicate (l++[c]).length false) l.length (X7 p (l++[c]))),.int 0]:=by
  rw[EL,vJ,he,VH]; rfl
 rw[hV]
 conv=>whnf
 refine ah.Qn (S.gZ l [c] f false (by omega) (by simp)) (And.intro (aC _) (And.intro (aak rfl rfl) trivial)) rfl ?_
 conv=>whnf
 refine ah.BG hsm rfl ?_
 conv=>whnf
 rw[show(bif isZero (V.int ((l++[c]).length:Nat)) then some Rw.nil else RP (((l++[c]).length:Nat):Int).toNat (T.bool false))=some (Rw.bools (List.replicate (l++[c]).length false)) from by rw[hll]; rfl]
 conv=>whnf
 refine .mk (by omega) ?_
 conv=>whnf
 refine ah.entails (p:=p) (l:=l++[c]) (f:=false) (es:=[]) (d:=List.replicate (l++[c]).length false) (i:=l.length) hp g1 g2 g3 hR2 (List.length_replicate ..) (by omega) (by simp[]) iW.nil rfl rfl rfl rfl (by decide) (fun es' _=>?_)
 conv=>whnf
 exact aA.eqv rfl
def ac2(n vals:Nat)(a:List Clause)(c:Clause):Prop:= ∀ B e,uH B n vals e->bC a e=true->holdsB c e=true
theorem VI{n vals vs b:Nat}{a:List Clause}{c:Clause}(hk: ∀ k∈a++[c],zD n vs k)(hb:zf (a++[c])+3<=b):VG a c (gI b n vals)=true↔ac2 n vals a c:=by
 have hrk:=Gs (l:=a++[c])
 have hra:=Gl (l:=a) (a:=[c])
 have h1:=qF (l:=a); have h2:=qF (l:=[c])
 have hc1:nI c<=bF [c]:=Bz (by simp)
 unfold VG
 rw[Bool.not_eq_true',List.any_eq_false]
 constructor
 ·intro h B e he hev
  have hnn: ∀ x∈e.counts,0<=x:=fun x hx=>(he.rng x hx).1
  have hlo:oU ((b-1:Nat):Int) e∈gI (b-1+1) n vals:=QD (by omega) he
  rw[show b-1+1=b by omega] at hlo
  have hag:=Jj (m:=((b-1:Nat):Int)) (by omega) hnn
  have e1:=uK (l:=a) (b:=oU ((b-1:Nat):Int) e) (m:=((b-1:Nat):Int)) (fun k q=>hk k (List.mem_append_left _ q)) he.len (by omega) rfl hag
  have e2:=Ey (b:=oU ((b-1:Nat):Int) e) (m:=((b-1:Nat):Int)) (hk c (by simp)) he.len (by omega) rfl hag
  have:=h _ hlo
  rw[<- e1,<- e2,hev] at this
  simpa using this
 ·intro h e he hf
  rw[Bool.and_eq_true,Bool.not_eq_true'] at hf
  have:=h b e (y9 (by omega) e he) hf.2
  rw[this] at hf; cases hf.1
theorem Td{e:Elem}:bC [] e=true:=rfl
theorem Oz{p:aW}{q:Prop'}{l:List Clause}{c:Clause}{e x:Elem}{r B C:Nat}(hs:Ij p q l []=true)(hc:vJ p l c=true)(hr:r<p.rules.length)(he:uH B p.states.length (kD p) e)(hev:bC l e=true)(hf:aX (p.rules.getD r default) e=some x)(hx:uH C p.states.length (kD p) x) :
  holdsB c x=true:=by
 obtain⟨⟨herr,_⟩,hst⟩:=Qs.1 hs
 have hE:mW p l=0:=by
  unfold wP at herr
  exact(bz nz herr).2
 have hcl: ∀ k∈l,zD p.states.length p.values.length k:=(Aj hE).1.cl
 have h1:=VF (a:=[]) (B:=B) hcl (fun k hk=>by cases hk) (hst r hr).2 e he x hf hev Td
 unfold vJ at hc
 rw[Bool.and_eq_true,beq_iff_eq] at hc
 have hC:xP p c=0:=by
  have h2:=hc.1
  unfold pJ at h2
  obtain⟨_,h3⟩:=bz nz h2
  exact(bz nz h3).2
 refine(VI (vs:=p.values.length) (fun k hk=>?_) (Nat.le_refl _)).1 hc.2 C x hx h1
 rcases List.mem_append.1 hk with hk|hk
 ·exact hcl k hk
 ·rw[List.mem_singleton] at hk; subst hk; exact QC hC
end Go.Proofs.YtiakcepnlcpanaaGreatDoor
