/-
 A part of the proof. No condition.
-/
import Derived.Test.YtifbibbicplneaaDoorIc
import Derived.Test.YtifbibbicplneaaDoorIe
namespace Go.Proofs.YtifbibbicplneaaDoor
open Go.Ab Go.Proofs
set_option maxRecDepth 100000
theorem VO{b:Nat}(hb:0<b): ∀ {n:Nat} {c:List Int},c.length=n->(∀ x∈c,0<=x/\x<b)-> ∃ v,v<b^n/\jl b n v=c:=by
 intro n
 induction n with
 |zero =>
  intro c hc _
  have:c=[]:=List.eq_nil_of_length_eq_zero hc
  subst this
  exact⟨0,by simp,rfl⟩
 |succ n ih =>
  intro c hc h
  cases c with
  |nil=>cases hc
  |cons x c =>
   obtain⟨u,hu,hd⟩:=ih (c:=c) (by simpa using hc) (fun y hy=>h y (List.mem_cons_of_mem _ hy))
   have hx:=h x (by simp)
   have hk:x.toNat<b:=by omega
   refine⟨x.toNat*b^n+u,?_,?_⟩
   ·have h1:(x.toNat+1)*b^n<=b*b^n:=Nat.mul_le_mul_right _ hk
    rw[Nat.add_mul,Nat.one_mul] at h1
    rw[Nat.pow_succ,Nat.mul_comm (b^n) b]; omega
   ·rw[Ql hb hk hu,hd]
    congr 1; omega
theorem QI: ∀ n:Nat,(List.replicate n (0:Int)).sum=0:=by
 intro n
 induction n with
 |zero=>rfl
 |succ n ih=>rw[List.replicate_succ,List.sum_cons,ih]; rfl
theorem VP{b n vals:Nat}{e:Elem}(hb:0<b)(h:yA b n vals e):e∈gY b n vals:=by
 obtain⟨v,hv,hd⟩:=VO hb h.len h.rng
 have hv0:v≠0:=by
  intro e0
  have h1:=h.pos
  rw[<- hd,e0,Bc hb,QI] at h1
  omega
 have hw:=h.val
 refine List.mem_flatMap.2 ⟨e.value.toNat,List.mem_range.2 (by omega),List.mem_map.2 ⟨v-1,List.mem_range.2 (by omega),?_⟩⟩
 rw[show v-1+1=v by omega,hd]
 cases e with
 |mk val cs =>
  have:((val.toNat:Nat):Int)=val:=by have:=hw.1; simp only at this ⊢; omega
  simp only[this]
theorem VQ{m:Int}(hm:1<=m): ∀ {c:List Int},(∀ x∈c,0<=x)->(0<c.sum->0<(iH m c).sum)/\0<=(iH m c).sum:=by
 intro c
 induction c with
 |nil=>intro _; simp[iH]
 |cons x c ih =>
  intro h
  have h0:=h x (by simp)
  obtain⟨a,b⟩:=ih fun y hy=>h y (List.mem_cons_of_mem _ hy)
  have e1:(x::c).sum=x+c.sum:=by simp
  have e2:(iH m (x::c)).sum=min x m+(iH m c).sum:=by simp[iH]
  rw[e1,e2]
  refine⟨fun hp=>?_,by omega⟩
  by_cases hx:x=0
  ·have:=a (by omega); omega
  ·omega
theorem OQ{B m n vals:Nat}{e:Elem}(hm:1<=m)(h:yA B n vals e):iQ m e∈gY (m+1) n vals:=by
 have hnn: ∀ x∈e.counts,0<=x:=fun x hx=>(h.rng x hx).1
 refine VP (by omega) ⟨by simp[iQ,iH,h.len],fun x hx=>?_,h.val,(VQ (by omega) hnn).1 h.pos⟩
 obtain⟨y,hy,rfl⟩:=List.mem_map.1 hx
 have:=hnn y hy; omega
theorem QJ{st:List Int}{m:Int}{e:Elem}(hm:1<=m)(h: ∀ x∈e.counts,0<=x):lC st (iQ m e)=lC st e:=by
 unfold lC Tc
 have hl:(iQ m e).counts.length=e.counts.length:=by simp[iQ,iH]
 rw[hl]
 have hv:(iQ m e).value=e.value:=rfl
 rw[hv]
 congr 2
 refine Ef fun i _=>?_
 have h1:=MO h i
 have h2:(iQ m e).counts.getD i 0=min (e.counts.getD i 0) m:=Iy (by omega)
 rw[h2,show decide (min (e.counts.getD i 0) m>0)=decide (e.counts.getD i 0>0) from decide_eq_decide.2 ⟨fun h=>by omega,fun h=>by omega⟩]
theorem G9{l:List Clause}{x:Elem}:dw l x=l.length↔bg l x=true:=by
 have h:=CQ (l:=l) (p:=fun k=> !holdsB k x)
 unfold dw bg
 have h2:(l.all fun k=> !(!holdsB k x))=l.all fun k=>holdsB k x:=yQ fun k _=>by rw[Bool.not_not]
 rw[h2] at h
 rw[<- h,beq_iff_eq]
theorem Nq{fire:Elem->Option Elem}{l a:List Clause}{s:Nat×Elem}{e:Elem}(hs:s.1<=l.length):(stepG fire l a s e).1=l.length↔s.1=l.length/\ ∀ x,fire e=some x->bg l e=true->bg a e=true->bg l x=true:=by
 have hle:=Ew (fire:=fire) (a:=a) (e:=e) hs
 unfold stepG at hle ⊢
 cases hf:fire e with
 |none=>exact⟨fun h=>⟨h,fun x hx=>by cases hx⟩,fun h=>h.1⟩
 |some x =>
  rw[hf] at hle
  simp only at hle ⊢
  cases hc:(bg l e&&bg a e&&(decide (dw l x<l.length)&&(decide (dw l x<s.1)||dw l x==s.1&&decide (kG e<kG s.2)))) with
  |true =>
   rw[Bool.and_eq_true,Bool.and_eq_true,Bool.and_eq_true] at hc
   obtain⟨⟨c1,c2⟩,c3,_⟩:=hc
   have c3:=of_decide_eq_true c3
   refine⟨fun h=>?_,fun h=>?_⟩
   ·have h':dw l x=l.length:=h
    omega
   ·have:=G9.2 (h.2 x rfl c1 c2)
    omega
  |false =>
   refine⟨fun h=>⟨h,fun y hy c1 c2=>?_⟩,fun h=>h.1⟩
   cases hy
   have h':s.1=l.length:=h
   rw[c1,c2,Bool.true_and,Bool.true_and,h'] at hc
   refine G9.1 ?_
   have hlt:dw l x<=l.length:=List.findIdx_le_length
   by_cases hq:dw l x<l.length
   ·rw[decide_eq_true hq] at hc; simp at hc
   ·omega
theorem vg{fire:Elem->Option Elem}{l a:List Clause}{es:List Elem}:(CS fire l a es).1=l.length↔ ∀ e∈es,∀ x,fire e=some x->bg l e=true->bg a e=true->bg l x=true:=by
 have: ∀ (es:List Elem) (s:Nat×Elem),s.1<=l.length->((es.foldl (stepG fire l a) s).1=l.length↔s.1=l.length/\ ∀ e∈es,∀ x,fire e=some x->bg l e=true->bg a e=true->bg l x=true):=by
  intro es
  induction es with
  |nil=>intro s _; exact⟨fun h=>⟨h,fun e he=>by cases he⟩,fun h=>h.1⟩
  |cons e es ih =>
   intro s hs
   rw[List.foldl_cons,ih _ (Ew hs),Nq hs]
   constructor
   ·rintro⟨⟨h1,h2⟩,h3⟩
    refine⟨h1,fun y hy=>?_⟩
    rcases List.mem_cons.1 hy with rfl|hy
    ·exact h2
    ·exact h3 y hy
   ·rintro⟨h1,h2⟩
    exact⟨⟨h1,h2 e (by simp)⟩,fun y hy=>h2 y (List.mem_cons_of_mem _ hy)⟩
 rw[CS,this es _ (Nat.le_refl _)]
 exact⟨fun h=>h.2,fun h=>⟨rfl,h⟩⟩
theorem EJ{l:List Clause}{es:List Elem}:qX l es=l.length↔ ∀ k∈l,∀ e∈es,holdsB k e=true:=by
 have h:=CQ (l:=l) (p:=fun k=>es.any fun e=> !holdsB k e)
 unfold qX
 rw[<- beq_iff_eq,h,List.all_eq_true]
 constructor
 ·intro g k hk e he
  have:=g k hk
  rw[Bool.not_eq_true',List.any_eq_false] at this
  simpa using this e he
 ·intro g k hk
  rw[Bool.not_eq_true',List.any_eq_false]
  intro e he; simp[g k hk e he]
def F5(p:aX)(q:Prop')(l a:List Clause):Bool:=((sS p q l==0)&&(qX l (qY p q l)==l.length))&&(List.range p.rules.length).all fun(r:Nat)=>(sO p r l a==0)&&((mP p (p.rules.getD r default) l a).1==l.length)
theorem OD{p:aX}{q:Prop'}{l a:List Clause}:F5 p q l a=true↔(sS p q l=0/\ ∀ k∈l,∀ e∈qY p q l,holdsB k e=true)/\ ∀ r,r<p.rules.length->sO p r l a=0/\ ∀ e∈gY (zC (l++a)+3) p.states.length (nU p),∀ x,bM (p.rules.getD r default) e=some x->bg l e=true->bg a e=true->bg l x=true:=by
 unfold F5
 rw[Bool.and_eq_true,Bool.and_eq_true,beq_iff_eq,beq_iff_eq,EJ,List.all_eq_true]
 constructor
 ·rintro⟨⟨h1,h2⟩,h3⟩
  refine⟨⟨h1,h2⟩,fun r hr=>?_⟩
  have:=h3 r (List.mem_range.2 hr)
  rw[Bool.and_eq_true,beq_iff_eq,beq_iff_eq] at this
  exact⟨this.1,vg.1 this.2⟩
 ·rintro⟨⟨h1,h2⟩,h3⟩
  refine⟨⟨h1,h2⟩,fun r hr=>?_⟩
  obtain⟨g1,g2⟩:=h3 r (List.mem_range.1 hr)
  rw[Bool.and_eq_true,beq_iff_eq,beq_iff_eq]
  exact⟨g1,vg.2 g2⟩
theorem TY: ∀ {l:List Int},(∀ x∈l,x=0)->bJ l=0:=by
 intro l
 induction l with
 |nil=>intro _; rfl
 |cons x r ih =>
  intro h
  have h0:=h x (by simp)
  subst h0
  exact ih fun y hy=>h y (List.mem_cons_of_mem _ hy)
theorem Nr{l a:List Clause}{e:Elem}:bg (l++a) e=bg (a++l) e:=by rw[tV,tV,Bool.and_comm]
theorem QK{l a:List Clause}:aU (l++a)=aU (a++l):=by rw[zL,zL]; omega
theorem OT{p:aX}{q:Prop'}{m l:List Clause}(hcm: ∀ k∈m,yg p.states.length p.values.length k)(aa0: ∀ k∈m,∀ e∈qY p q m,holdsB k e=true): ∀ k∈m,∀ e∈qY p q l,holdsB k e=true:=by
 intro k hk e he
 obtain⟨g1,g2⟩:=List.mem_filter.1 he
 have hu:=xM (by omega) e g1
 have hnn: ∀ x∈e.counts,0<=x:=fun x hx=>(hu.rng x hx).1
 have hlo:iQ ((zC m+2:Nat):Int) e∈gY (zC m+2+1) p.states.length (nU p):=OQ (by omega) hu
 have aa1:iQ ((zC m+2:Nat):Int) e∈qY p q m:=by
  refine List.mem_filter.2 ⟨hlo,?_⟩
  rw[QJ (by omega) hnn]; exact g2
 have h1:=aa0 k hk _ aa1
 have h2:=G8 (m:=((zC m+2:Nat):Int)) (e:=e) (by omega) hnn
 have hrk:=IJ (l:=m)
 have h3:=xE hk
 rw[CX (hcm k hk) hu.len (m:=((zC m+2:Nat):Int)) (by omega) (show e.value=(iQ ((zC m+2:Nat):Int) e).value from rfl) h2,h1]
theorem Kv{p:aX}{r:Rule}{m a:List Clause}{B:Nat}(hcm: ∀ k∈m,yg p.states.length p.values.length k)(hca: ∀ k∈a,yg p.states.length p.values.length k)
  (hstep: ∀ e∈gY (zC (m++a)+3) p.states.length (nU p),∀ x,bM r e=some x->bg m e=true->bg a e=true->bg m x=true) :
  ∀ e,yA B p.states.length (nU p) e-> ∀ x,bM r e=some x->bg m e=true->bg a e=true->bg m x=true:=by
 intro e hu x hf h1 h2
 have hnn: ∀ x∈e.counts,0<=x:=fun x hx=>(hu.rng x hx).1
 have hrm:=IJ (l:=m++a)
 have hra:aU m<=aU (m++a):=by rw[zL]; omega
 have hrb:aU a<=aU (m++a):=by rw[zL]; omega
 have hlo:iQ ((zC (m++a):Int)+2) e∈gY (zC (m++a)+3) p.states.length (nU p):=by
  have:=OQ (m:=zC (m++a)+2) (by omega) hu
  exact this
 have hag:=G8 (m:=(zC (m++a):Int)+2) (e:=e) (by omega) hnn
 have e1:bg m (iQ ((zC (m++a):Int)+2) e)=true:=by
  rw[<- wH hcm hu.len (m:=(zC (m++a):Int)+2) (by omega) (show e.value=(iQ ((zC (m++a):Int)+2) e).value from rfl) hag]; exact h1
 have e2:bg a (iQ ((zC (m++a):Int)+2) e)=true:=by
  rw[<- wH hca hu.len (m:=(zC (m++a):Int)+2) (by omega) (show e.value=(iQ ((zC (m++a):Int)+2) e).value from rfl) hag]; exact h2
 rcases Np (r:=r) (a:=e) (b:=iQ ((zC (m++a):Int)+2) e) (m:=(zC (m++a):Int)) (by omega) rfl hag with ⟨u1,_⟩|⟨x1,y1,u1,u2,u3,u4⟩
 ·rw[hf] at u1; cases u1
 ·rw[hf] at u1
  cases u1
  have h5:=hstep _ hlo y1 u2 e1 e2
  have hxl:x.counts.length=p.states.length:=by rw[GK hf,hu.len]
  rw[wH hcm hxl (m:=(zC (m++a):Int)) (by omega) u3 u4]; exact h5
theorem Ns{bad:Elem->Bool}{l m:List Clause}(h: ∀ e,bg l e=bg m e){es:List Elem}:MS bad l es=MS bad m es:=by
 unfold MS
 have:uX bad l=uX bad m:=by
  funext s e
  unfold uX
  rw[h e]
 rw[this]
theorem JK{p:aX}{q:Prop'}{a b:List Clause}(hs:F5 p q a []=true)(hc:Oz p q b a=true):Oz p q (a++b) []=true:=by
 obtain⟨⟨hea,hia⟩,hsa⟩:=OD.1 hs
 unfold Oz at hc
 rw[Bool.and_eq_true,Bool.and_eq_true,beq_iff_eq,beq_iff_eq,EJ] at hc
 obtain⟨⟨heb,hib⟩,hr⟩:=hc
 unfold EI at hr
 rw[Bool.and_eq_true,Bool.and_eq_true,Bool.and_eq_true,beq_iff_eq,decide_eq_true_eq,List.all_eq_true] at hr
 obtain⟨⟨hca,hlen⟩,hst,hmod⟩:=hr
 have hE:yN p q=0/\lT p b=0:=by
  unfold sS at heb
  obtain⟨u,v⟩:=bz nz heb
  exact⟨by simpa using u,v⟩
 obtain⟨hR,_⟩:=uP hE.2
 obtain⟨hA,_⟩:=uP hca
 have hcab:lT p (a++b)=0:=by
  unfold lT
  rw[decide_eq_false (show ¬ (((a++b).length:Int)>160) by rw[List.length_append]; omega)]
  refine TY fun x hx=>?_
  obtain⟨k,hk,rfl⟩:=List.mem_map.1 hx
  have hz: ∀ {l:List Clause},lT p l=0->k∈l->xG p k=0:=fun h hk=>by
   unfold lT at h
   obtain⟨_,h2⟩:=bz (fun _=>by decide) h
   exact gW h2 _ (List.mem_map.2 ⟨k,hk,rfl⟩)
  rcases List.mem_append.1 hk with hk|hk
  ·exact hz hca hk
  ·exact hz hE.2 hk
 have hcl: ∀ k∈a++b,yg p.states.length p.values.length k:=fun k hk=>(List.mem_append.1 hk).elim (hA.cl k) (hR.cl k)
 unfold Oz
 rw[Bool.and_eq_true,Bool.and_eq_true,beq_iff_eq,beq_iff_eq,EJ]
 refine⟨⟨by rw[sS,hE.1,hcab]; rfl,fun k hk e he=>?_⟩,?_⟩
 ·rcases List.mem_append.1 hk with hk|hk
  ·exact OT hA.cl hia k hk e he
  ·exact OT hR.cl hib k hk e he
 ·unfold EI
  rw[Bool.and_eq_true,Bool.and_eq_true,Bool.and_eq_true,beq_iff_eq,decide_eq_true_eq,List.all_eq_true]
  refine⟨⟨rfl,by rw[List.length_append,List.length_nil]; omega⟩,fun r hr=>?_,?_⟩
  ·obtain⟨i,hi,rfl⟩:=List.mem_iff_getElem.1 hr
   unfold sW
   rw[beq_iff_eq]
   refine vg.2 fun e he x hx h1 h2=>?_
   have hu:=xM (by omega) e he
   rw[tV,Bool.and_eq_true] at h1
   have hgi:p.rules.getD i default=p.rules[i]:=by simp[hi]
   have ha:=Kv (r:=p.rules[i]) hA.cl (fun k hk=>by cases hk) (fun e he x hx h1 h2=>(hsa i hi).2 e he x (by rw[hgi]; exact hx) h1 h2) e hu x hx h1.1 rfl
   have hsb:=hst _ hr
   unfold sW at hsb
   rw[beq_iff_eq] at hsb
   have hb:=Kv (r:=p.rules[i]) hR.cl hA.cl (vg.1 hsb) e hu x hx h1.2 h1.1
   rw[tV,ha,hb]; rfl
  ·rw[List.append_nil]
   have hm:J8 p q (a++b)=J8 p q (b++a):=by
    unfold J8
    rw[Ns (fun e=>Nr (l:=a) (a:=b) (e:=e)),show Nj q (a++b)=Nj q (b++a) by unfold Nj; rw[QK]]
   rw[hm]; exact hmod
theorem S.nM(p:aX)(q:Prop')(l a:List Clause)(f g:Bool)(hp:dP p)(hq:nK q)(hl:SmallK l)(ha:SmallK a):ay Tryd.prog 6 [.dat (.eG p),.dat (.prop q),.row 4 f (.clauses l),.row 4 g (.clauses a)] (.bool (F5 p q l a)):=by
 refine ay.of Bd.nM (by simp) rfl rfl ?_
 conv=>whnf
 refine ah.pure (S.dL p q l f hp hq hl) rfl ?_
 rw[Nh]
 conv=>whnf
 repeat(refine VC.mk (by first|exact id|(intro h; rw[h]; rfl)) ?_; conv=>whnf)
 cases he:sS p q l !=0 with
 |true =>
  conv=>whnf
  refine Fork.mk (fun _=>?_) (fun q=>absurd (q.symm.trans ((Bool.true_or _))) Bool.false_ne_true)
  conv=>whnf
  exact aB.bool (by rw[F5,show(sS p q l==0)=false from beq_eq_false_iff_ne.2 (Xr he)]; rfl)
 |false =>
  have he0:sS p q l=0:=JW he
  have hor:(orM l.length (qX l (qY p q l)) != -1)= !(qX l (qY p q l)==l.length):=by
   unfold orM
   cases hb:qX l (qY p q l)==l.length with
   |true=>rfl
   |false=>simp only[cond_false]; rw[bne_iff_ne.2 (by omega)]; rfl
  rw[he0]
  conv=>whnf
  refine⟨fun h1=>?_,fun h1=>?_⟩
  ·have h1':(orM l.length (qX l (qY p q l)) != -1)=true:=h1
   conv=>whnf
   refine aB.bool ?_
   rw[hor,Bool.not_eq_true'] at h1'
   rw[F5,h1',Bool.and_false]; rfl
  have h1':(orM l.length (qX l (qY p q l)) != -1)=false:=h1
  rw[hor,Bool.not_eq_false'] at h1'
  have hru:=hp.rules
  have hst:F5 p q l a=(List.range p.rules.length).all fun(r:Nat)=>(sO p r l a==0)&&((mP p (p.rules.getD r default) l a).1==l.length):=by rw[F5,he0,h1']; rfl
  conv=>whnf
  refine aY.same [2,3,4] (fun i:Nat=>[(11,.int i)]) (fun i=>i<=p.rules.length/\((List.range i).all fun(r:Nat)=>(sO p r l a==0)&&((mP p (p.rules.getD r default) l a).1==l.length))=true) (fun i=>p.rules.length-i) 0 rfl (by decide) rfl (fun _=>rfl) ⟨by omega,by simp⟩ ⟨⟨_,rfl,rfl⟩,trivial⟩ ?_
  conv=>whnf
  refine⟨rfl,?_⟩
  rintro i ⟨hi,hall⟩
  conv=>whnf
  refine⟨fun h3=>?_,fun h3=>?_⟩
  ·have hi':i<p.rules.length:=by simpa using h3
   have hS:=S.dW p i l a f g hp hl ha
   have hnx:((List.range (i+1)).all fun(r:Nat)=>(sO p r l a==0)&&((mP p (p.rules.getD r default) l a).1==l.length))=((sO p i l a==0)&&((mP p (p.rules.getD i default) l a).1==l.length)):=by
    rw[List.range_succ,List.all_append,hall]; simp
   have hle:(mP p (p.rules.getD i default) l a).1<=l.length:=Ey
   conv=>whnf
   cases hz:sO p i l a !=0 with
   |true =>
    rw[zS rfl hz] at hS
    refine ah.pure hS rfl ?_
    conv=>whnf
    repeat(refine VC.mk (by first|exact id|(intro h; rw[h]; rfl)) ?_; conv=>whnf)
    refine Fork.mk (fun _=>?_) (fun q=>absurd (q.symm.trans ((by rw[hz]; rfl:(sO p i l a !=0||(0:Int) != -1)=true))) Bool.false_ne_true)
    conv=>whnf
    refine aB.bool ?_
    rw[hst,List.all_eq_false]
    exact⟨i,List.mem_range.2 hi',by rw[show(sO p i l a==0)=false from beq_eq_false_iff_ne.2 (Xr hz)]; simp⟩
   |false =>
    have hz0:sO p i l a=0:=JW hz
    have hV:Iq p i l a= .fU (TW l.length (mP p (p.rules.getD i default) l a)++[.int 0]):=by
     rw[Iq,hz,hz0]; rfl
    rw[hV] at hS
    refine ah.pure hS rfl ?_
    conv=>whnf
    repeat(refine VC.mk (by first|exact id|(intro h; rw[h]; rfl)) ?_; conv=>whnf)
    have hor2:(orM l.length (mP p (p.rules.getD i default) l a).1 != -1)= !((mP p (p.rules.getD i default) l a).1==l.length):=by
     unfold orM
     cases hb:(mP p (p.rules.getD i default) l a).1==l.length with
     |true=>rfl
     |false=>simp only[cond_false]; rw[bne_iff_ne.2 (by omega)]; rfl
    refine⟨fun h4=>?_,fun h4=>?_⟩
    ·have h4':(orM l.length (mP p (p.rules.getD i default) l a).1 != -1)=true:=by simpa using h4
     rw[hor2,Bool.not_eq_true'] at h4'
     conv=>whnf
     refine aB.bool ?_
     rw[hst,List.all_eq_false]
     exact⟨i,List.mem_range.2 hi',by rw[h4',Bool.and_false]; decide⟩
    ·have h4':(orM l.length (mP p (p.rules.getD i default) l a).1 != -1)=false:=by simpa using h4
     rw[hor2,Bool.not_eq_false'] at h4'
     conv=>whnf
     refine .mk (by simp only[okI] at *; first|omega|(simp_all; done)|(simp_all; omega)) ?_
     conv=>whnf
     refine⟨i+1,⟨by omega,?_⟩,by omega,⟨⟨_,rfl,rfl⟩,trivial⟩,?_,rfl⟩
     ·rw[hnx,hz0,h4']; rfl
     ·repeat' (first|exact trivial|exact⟨_,rfl,rfl⟩|constructor)
  ·have hi':i=p.rules.length:=by have: ¬ ((i:Int)<(p.rules.length:Int)):=of_decide_eq_false h3; omega
   subst hi'
   conv=>whnf
   exact aB.bool (by rw[hst,hall])
end Go.Proofs.YtifbibbicplneaaDoor
