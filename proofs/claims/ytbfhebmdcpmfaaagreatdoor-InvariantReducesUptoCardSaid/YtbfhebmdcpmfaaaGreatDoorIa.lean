/-
 A part of the proof. No condition.
-/
import Derived.Test.YtbfhebmdcpmfaaaGreatDoorLf
import Derived.Test.YtbfhebmdcpmfaaaGreatDoorFa
namespace Go.Proofs.YtbfhebmdcpmfaaaGreatDoor
open Go.Ab Go.Proofs
set_option maxRecDepth 100000
def xG(l:List Int)(x:Int):Int:=bif l.any (fun y=>x==y) then 1 else 0
def qO(l c:List Int):Int:=(l.map fun x=>c.getD x.toNat 0).sum
def dN(c:List Int)(x:Int):List Int:=c.set x.toNat (c.getD x.toNat 0-1)
def pz:List (List Int)->List Int->List Int->Bool
 |[],l,c=>l.any fun x=>decide (c.getD x.toNat 0>0)
 |s::r,l,c=>s.all fun x=>c.getD x.toNat 0==0||pz r l (dN c x)
def Jt(k:Clause)(v:Int):Bool:=decide ((k.values.length:Int)>0)&& !(k.values.any fun y=>v==y)
def holdsB(k:Clause)(e:Elem):Bool:=Jt k e.value||pz k.each k.some e.counts
def EY(n:Nat)(l:List Int):Prop:=(∀ x∈l,0<=x/\x<n)/\l.Pairwise (· < ·)
structure yG(n vals:Nat)(k:Clause):Prop where
 two:k.each.length<=2
 each: ∀ s∈k.each,EY n s/\s≠[]
 values:EY vals k.values
 some:EY n k.some
theorem MQ{l c:List Int}(h: ∀ x∈l,0<=c.getD x.toNat 0):(l.any fun x=>decide (c.getD x.toNat 0>0))=decide (0<qO l c)/\0<=qO l c:=by
 induction l with
 |nil=>simp[qO]
 |cons x r ih =>
  have h1:=h x (by simp)
  obtain⟨h2,h3⟩:=ih fun y hy=>h y (List.mem_cons_of_mem _ hy)
  have e:qO (x::r) c=c.getD x.toNat 0+qO r c:=by simp[qO]
  rw[List.any_cons,h2,e]
  refine⟨?_,by omega⟩
  rw[<- Bool.decide_or]
  exact decide_eq_decide.2 ⟨fun h=>by omega,fun h=>by omega⟩
theorem pF{c:List Int}{a b:Int}(ha:0<=a/\a<c.length)(hb:0<=b):(dN c a).getD b.toNat 0=c.getD b.toNat 0-(if b=a then 1 else 0):=by
 unfold dN
 by_cases e:b=a
 ·subst e
  have:b.toNat<c.length:=by omega
  rw[if_pos rfl]
  simp[this]
 ·rw[if_neg e]
  have hne:a.toNat≠b.toNat:=by omega
  simp[List.getD_eq_getElem?_getD,List.getElem?_set_ne hne]
theorem Ec{l c:List Int}{a:Int}(ha:0<=a/\a<c.length)(hl: ∀ x∈l,0<=x)(hd:l.Pairwise (· < ·)):qO l (dN c a)=qO l c-xG l a:=by
 induction l with
 |nil=>simp[qO,xG]
 |cons x r ih =>
  have h1:=ih (fun y hy=>hl y (List.mem_cons_of_mem _ hy)) (List.pairwise_cons.1 hd).2
  have e: ∀ c,qO (x::r) c=c.getD x.toNat 0+qO r c:=fun c=>by simp[qO]
  rw[e,e,h1,pF ha (hl x (by simp))]
  have h2:=(List.pairwise_cons.1 hd).1
  by_cases hx:x=a
  ·subst hx
   have:xG r x=0:=by
    unfold xG
    rw[show(r.any fun y=>x==y)=false from by
     rw[List.any_eq_false]; intro y hy he; have:=h2 y hy; have:=beq_iff_eq.1 he; omega]; rfl
   rw[this]
   simp[xG]; omega
  ·have:xG (x::r) a=xG r a:=by
    unfold xG; rw[List.any_cons,show(a==x)=false from beq_eq_false_iff_ne.2 fun h=>hx h.symm,Bool.false_or]
   rw[this,if_neg hx]; omega
def KE(k:Clause)(c:List Int)(a:Int):Bool:=decide (qO k.some c-xG k.some a<=0)
def Ed(k:Clause)(c:List Int)(a b:Int):Bool:=(b !=a&&decide (c.getD b.toNat 0>0)||decide (c.getD b.toNat 0>1))&&decide (qO k.some c-xG k.some a-xG k.some b<=0)
def yw(k:Clause)(c:List Int)(a:Int):Bool:=c.getD a.toNat 0==0|| !((k.each.length:Int)==1&&KE k c a)&& !(decide ((k.each.length:Int)>1)&&(k.each.getD 1 []).any (Ed k c a))
def KF(k:Clause)(e:Elem):Bool:=Jt k e.value||bif (k.each.length:Int)==0 then decide (qO k.some e.counts>0) else(k.each.getD 0 []).all (yw k e.counts)
theorem xH{α:Type}{l:List α}{p q:α->Bool}(h: ∀ x∈l,p x=q x):l.all p=l.all q:=by
 induction l with
 |nil=>rfl
 |cons x r ih=>rw[List.all_cons,List.all_cons,h x (by simp),ih fun y hy=>h y (List.mem_cons_of_mem _ hy)]
theorem Pn{α:Type}{l:List α}{p q:α->Bool}(h: ∀ x∈l,p x=q x):l.any p=l.any q:=by
 induction l with
 |nil=>rfl
 |cons x r ih=>rw[List.any_cons,List.any_cons,h x (by simp),ih fun y hy=>h y (List.mem_cons_of_mem _ hy)]
theorem Yw{α:Type}{l:List α}{p q:α->Bool}(h: ∀ x∈l,p x= !q x):l.all p= !l.any q:=by
 induction l with
 |nil=>rfl
 |cons x r ih=>rw[List.all_cons,List.any_cons,h x (by simp),ih fun y hy=>h y (List.mem_cons_of_mem _ hy),Bool.not_or]
theorem yV{c:List Int}(h: ∀ x∈c,0<=x)(i:Nat):0<=c.getD i 0:=by
 by_cases hi:i<c.length
 ·rw[show c.getD i 0=c[i] by simp[hi]]; exact h _ (List.getElem_mem hi)
 ·rw[show c.getD i 0=0 by simp[List.getD_eq_getElem?_getD,List.getElem?_eq_none (by omega:c.length<=i)]]; omega
theorem QV{vals:Nat}{k:Clause}{e:Elem}(hk:yG e.counts.length vals k)(hc: ∀ x∈e.counts,0<=x):KF k e=holdsB k e:=by
 unfold KF holdsB
 congr 1
 obtain⟨each,values,l⟩:=k
 obtain⟨v,c⟩:=e
 simp only at hk hc ⊢
 have hl:=hk.some
 have base:pz [] l c=decide (0<qO l c):=(MQ fun x _=>yV hc _).1
 have base': ∀ c',(∀ x∈l,0<=c'.getD x.toNat 0)->pz [] l c'=decide (0<qO l c'):=fun c' h=>(MQ h).1
 match each,hk with
 |[],_=>simp only[List.length_nil]; exact base.symm
 |[s],hk =>
  have hs:=(hk.each s (by simp)).1
  show(s.all (yw ⟨[s],values,l⟩ c))=s.all fun x=>c.getD x.toNat 0==0||pz [] l (dN c x)
  refine xH fun a ha=>?_
  have h1:=hs.1 a ha
  have h0:=yV hc a.toNat
  unfold yw
  cases hz:c.getD a.toNat 0==0 with
  |true=>rfl
  |false =>
   have hz':c.getD a.toNat 0≠0:=by intro h; rw[h] at hz; cases hz
   rw[base' (dN c a) fun x hx=>by
    rw[pF h1 (hl.1 x hx).1]
    have:=yV hc x.toNat
    split
    ·rename_i e; subst e; omega
    ·omega]
   rw[Ec h1 (fun x hx=>(hl.1 x hx).1) hl.2]
   simp only[KE,List.length_singleton,Bool.false_or]
   have:(!decide (qO l c-xG l a<=0))=decide (0<qO l c-xG l a):=by
    rw[<- decide_not]; exact decide_eq_decide.2 ⟨fun h=>by omega,fun h=>by omega⟩
   simpa using this
 |[s,t],hk =>
  have hs:=(hk.each s (by simp)).1
  have ht:=(hk.each t (by simp)).1
  show(s.all (yw ⟨[s,t],values,l⟩ c))=s.all fun x=>c.getD x.toNat 0==0||t.all fun y=>(dN c x).getD y.toNat 0==0||pz [] l (dN (dN c x) y)
  refine xH fun a ha=>?_
  have h1:=hs.1 a ha
  have h0:=yV hc a.toNat
  unfold yw
  cases hz:c.getD a.toNat 0==0 with
  |true=>rfl
  |false =>
   have hz':c.getD a.toNat 0≠0:=by intro h; rw[h] at hz; cases hz
   have e2:((([s,t]:List (List Int)).length:Int)==1)=false:=rfl
   have e3:decide ((([s,t]:List (List Int)).length:Int)>1)=true:=rfl
   simp only[e2,e3,Bool.false_or,Bool.false_and,Bool.not_false,Bool.true_and]
   refine Eq.symm (Yw fun b hb=>?_)
   have h2:=ht.1 b hb
   have g2:=yV hc b.toNat
   have hlen:(dN c a).length=c.length:=by simp[dN]
   have gb:=pF (c:=c) h1 h2.1
   have hcd:((dN c a).getD b.toNat 0==0)= !(b !=a&&decide (c.getD b.toNat 0>0)||decide (c.getD b.toNat 0>1)):=by
    rw[gb]
    by_cases e:b=a
    ·subst e
     rw[if_pos rfl,show(b !=b)=false from by simp,Bool.false_and,Bool.false_or,<- decide_not]
     rw[show(c.getD b.toNat 0-1==0)=decide (c.getD b.toNat 0-1=0) from rfl]
     exact decide_eq_decide.2 ⟨fun h=>by omega,fun h=>by omega⟩
    ·rw[if_neg e,show(b !=a)=true from by simp[e],Bool.true_and,<- Bool.decide_or,<- decide_not]
     rw[show(c.getD b.toNat 0-0==0)=decide (c.getD b.toNat 0-0=0) from rfl]
     exact decide_eq_decide.2 ⟨fun h=>by omega,fun h=>by omega⟩
   rw[hcd]
   unfold Ed
   cases hg:(b !=a&&decide (c.getD b.toNat 0>0)||decide (c.getD b.toNat 0>1)) with
   |false=>rfl
   |true =>
    have hpos:(dN c a).getD b.toNat 0≠0:=by
     intro h; rw[hg,h] at hcd; cases hcd
    have hnn: ∀ x:Int,0<=x->0<=(dN c a).getD x.toNat 0:=fun x hx=>by
     rw[pF h1 hx]
     have:=yV hc x.toNat
     split
     ·rename_i e; subst e; omega
     ·omega
    have h2':0<=b/\b<(dN c a).length:=by rw[hlen]; exact h2
    rw[base' (dN (dN c a) b) fun x hx=>by
     rw[pF h2' (hl.1 x hx).1]
     have h3:=hnn x (hl.1 x hx).1
     split
     ·rename_i e; subst e; omega
     ·omega]
    rw[Ec h2' (fun x hx=>(hl.1 x hx).1) hl.2,Ec h1 (fun x hx=>(hl.1 x hx).1) hl.2]
    simp only[Bool.not_true,Bool.false_or,Bool.true_and]
    rw[<- decide_not]; exact decide_eq_decide.2 ⟨fun h=>by omega,fun h=>by omega⟩
def KG(r:Int)(c d:List Int):Prop:=c.length=d.length/\ ∀ i,0<=c.getD i 0/\0<=d.getD i 0/\min (c.getD i 0) r=min (d.getD i 0) r
theorem Gw{l:List Int}: ∀ {each:List (List Int)} {r:Int} {c d:List Int},KG r c d->(each.length:Int)+(if 0<l.length then 1 else 0)<=r->(∀ s∈each,∀ x∈s,0<=x/\x<c.length)->pz each l c=pz each l d:=by
 intro each
 induction each with
 |nil =>
  intro r c d h hr _
  cases l with
  |nil=>rfl
  |cons y l =>
   simp only[List.length_cons,if_pos (Nat.succ_pos _),List.length_nil] at hr
   refine Pn fun x _=>decide_eq_decide.2 ?_
   have:=h.2 x.toNat
   constructor<;>intro g<;>omega
 |cons s each ih =>
  intro r c d h hr hs
  simp only[List.length_cons] at hr
  have hr1:1<=r:=by split at hr<;>omega
  show(s.all fun x=>c.getD x.toNat 0==0||pz each l (dN c x))=s.all fun x=>d.getD x.toNat 0==0||pz each l (dN d x)
  refine xH fun x hx=>?_
  have hxs:=hs s (by simp) x hx
  have hxd:0<=x/\x<d.length:=by rw[<- h.1]; exact hxs
  obtain⟨a1,a2,a3⟩:=h.2 x.toNat
  by_cases hz:c.getD x.toNat 0=0
  ·have:d.getD x.toNat 0=0:=by omega
   rw[hz,this]; rfl
  ·have hd:d.getD x.toNat 0≠0:=by omega
   rw[beq_eq_false_iff_ne.2 hz,beq_eq_false_iff_ne.2 hd,Bool.false_or,Bool.false_or]
   refine ih (r:=r-1) ⟨by simp[dN,h.1],fun i=>?_⟩ (by omega) fun t ht y hy=>by
    have:=hs t (List.mem_cons_of_mem _ ht) y hy
    simpa [dN] using this
   have gi:=h.2 i
   have t1:=pF (c:=c) (b:=(i:Int)) hxs (by omega)
   have t2:=pF (c:=d) (b:=(i:Int)) hxd (by omega)
   simp only[Int.toNat_natCast] at t1 t2
   rw[t1,t2]
   by_cases e:(i:Int)=x
   ·have e':x.toNat=i:=by omega
    rw[e'] at hz hd
    rw[if_pos e]; omega
   ·rw[if_neg e]; omega
def kK(k:Clause):Int:=(k.each.length:Int)+(if 0<k.some.length then 1 else 0)
def bF(l:List Clause):Int:=l.foldl (fun r k=>max r (kK k)) 0
def oC(r:Int)(c:List Int):List Int:=c.map fun x=>min x r
def uj(r:Int)(e:Elem):Elem:=⟨e.value,oC r e.counts⟩
def yX(r:Int)(v:Int)(c:List Int):Int:=c.foldl (fun k x=>k*(r+1)+min x r) v
def keyE(r:Int)(e:Elem):Int:=yX r e.value e.counts
def fH(l:List Clause)(e:Elem):List Bool:=l.map fun k=>holdsB k e
theorem QW{r:Int}{c:List Int}(hr:0<=r){i:Nat}:(oC r c).getD i 0=min (c.getD i 0) r:=by
 by_cases hi:i<c.length
 ·simp[oC,hi]
 ·rw[show(oC r c).getD i 0=0 by simp[oC,List.getD_eq_getElem?_getD,List.getElem?_eq_none (by omega:c.length<=i)],show c.getD i 0=0 by simp[List.getD_eq_getElem?_getD,List.getElem?_eq_none (by omega:c.length<=i)]]; omega
theorem Gx{l:List Clause}: ∀ {r:Int},r<=l.foldl (fun r k=>max r (kK k)) r/\ ∀ k∈l,kK k<=l.foldl (fun r k=>max r (kK k)) r:=by
 induction l with
 |nil=>intro r; exact⟨by simp,fun k h=>by cases h⟩
 |cons x l ih =>
  intro r
  have:=@ih (max r (kK x))
  rw[List.foldl_cons]
  refine⟨by omega,fun k hk=>?_⟩
  rcases List.mem_cons.1 hk with rfl|hk
  ·omega
  ·exact this.2 k hk
theorem zQ{l:List Clause}{k:Clause}(h:k∈l):kK k<=bF l:=Gx.2 k h
theorem nC{l:List Clause}:0<=bF l:=Gx.1
theorem qP{l:List Clause}(h: ∀ k∈l,k.each.length<=2):bF l<=3:=by
 have: ∀ (l:List Clause) (r:Int),r<=3->(∀ k∈l,k.each.length<=2)->l.foldl (fun r k=>max r (kK k)) r<=3:=by
  intro l
  induction l with
  |nil=>intro r hr _; exact hr
  |cons x l ih =>
   intro r hr h
   rw[List.foldl_cons]
   refine ih _ ?_ fun k hk=>h k (List.mem_cons_of_mem _ hk)
   have:=h x (by simp)
   unfold kK
   split<;>omega
 exact this l 0 (by omega) h
theorem Ee{n vals:Nat}{k:Clause}{e:Elem}{r:Int}(hk:yG n vals k)(hn:e.counts.length=n)(hc: ∀ x∈e.counts,0<=x)(hr:kK k<=r):holdsB k (uj r e)=holdsB k e:=by
 have hr0:0<=r:=by unfold kK at hr; split at hr<;>omega
 unfold holdsB uj
 congr 1
 refine Gw (r:=r) ⟨by simp[oC],fun i=>?_⟩ hr fun s hs x hx=>by
  have:=(hk.each s hs).1.1 x hx
  simpa [oC,hn] using this
 have:=yV hc i
 rw[QW hr0]; omega
theorem key_inj{r:Int}(hr:0<=r): ∀ {n:Nat} {v w:Int} {c d:List Int},c.length=n->d.length=n->(∀ x∈c,0<=x)->(∀ x∈d,0<=x)->yX r v c=yX r w d->v=w/\oC r c=oC r d:=by
 intro n
 induction n with
 |zero =>
  intro v w c d hc hd _ _ h
  have:c=[]:=List.eq_nil_of_length_eq_zero hc
  subst this
  have:d=[]:=List.eq_nil_of_length_eq_zero hd
  subst this
  exact⟨h,rfl⟩
 |succ n ih =>
  intro v w c d hc hd pc pd h
  have e1:c≠[]:=by intro e; subst e; simp at hc
  have e2:d≠[]:=by intro e; subst e; simp at hd
  obtain⟨c',x,rfl⟩: ∃ c' x,c=c'++[x]:=⟨_,_,(List.dropLast_concat_getLast e1).symm⟩
  obtain⟨d',y,rfl⟩: ∃ d' y,d=d'++[y]:=⟨_,_,(List.dropLast_concat_getLast e2).symm⟩
  simp only[yX,List.foldl_append,List.foldl_cons,List.foldl_nil] at h
  have hx:=pc x (by simp)
  have hy:=pd y (by simp)
  have hb: ∀ {a b p q:Int},a*(r+1)+p=b*(r+1)+q->0<=p->p<=r->0<=q->q<=r->a=b/\p=q:=by
   intro a b p q h p1 p2 q1 q2
   have hab:(a-b)*(r+1)=q-p:=by rw[Int.sub_mul]; omega
   rcases Int.lt_trichotomy a b with g|g|g
   ·exfalso
    have:(b-a)*(r+1)>=1*(r+1):=Int.mul_le_mul_of_nonneg_right (by omega) (by omega)
    have e:(b-a)*(r+1)= -((a-b)*(r+1)):=by rw[<- Int.neg_mul]; congr 1; omega
    omega
   ·subst g; simp at hab; omega
   ·exfalso
    have:(a-b)*(r+1)>=1*(r+1):=Int.mul_le_mul_of_nonneg_right (by omega) (by omega)
    omega
  obtain⟨h1,h2⟩:=hb h (by omega) (by omega) (by omega) (by omega)
  obtain⟨h3,h4⟩:=ih (by simpa using hc) (by simpa using hd) (fun z hz=>pc z (by simp[hz])) (fun z hz=>pd z (by simp[hz])) h1
  refine⟨h3,?_⟩
  unfold oC at h4 ⊢
  rw[List.map_append,List.map_append,h4]; simp[h2]
structure SL(n:Nat)(e:Elem):Prop where
 len:e.counts.length=n
 nn: ∀ x∈e.counts,0<=x
theorem Yx{n vals:Nat}{l:List Clause}{e f:Elem}(hl: ∀ k∈l,yG n vals k)(he:SL n e)(hf:SL n f)(h:keyE (bF l) e=keyE (bF l) f):fH l e=fH l f:=by
 obtain⟨h1,h2⟩:=key_inj nC he.len hf.len he.nn hf.nn h
 refine List.map_congr_left fun k hk=>?_
 rw[<- Ee (hl k hk) he.len he.nn (zQ hk),<- Ee (hl k hk) hf.len hf.nn (zQ hk)]
 unfold uj
 rw[h1,h2]
theorem Yy{n vals:Nat}{l:List Clause}{e:Elem}(hl: ∀ k∈l,yG n vals k)(he:SL n e):fH l (uj (bF l) e)=fH l e :=
 List.map_congr_left fun k hk=>Ee (hl k hk) he.len he.nn (zQ hk)
def iL(n:Nat)(l:List Clause)(es:List (Int×List Bool)):Prop:= ∀ e,SL n e-> ∀ row,wz (keyE (bF l) e) es=some row->row=fH l e
theorem iL.nil{n:Nat}{l:List Clause}:iL n l []:=fun e _ row h=>by cases h
theorem VD{k:Int}{p:Int×List Bool}: ∀ {es:List (Int×List Bool)} {row:List Bool},wz k (es++[p])=some row->wz k es=some row\/(k=p.1/\row=p.2):=by
 intro es
 induction es with
 |nil =>
  intro row h
  obtain⟨a,b⟩:=p
  simp only[List.nil_append,wz] at h
  cases hb:k==a with
  |true=>rw[hb] at h; cases h; exact .inr ⟨beq_iff_eq.1 hb,rfl⟩
  |false=>rw[hb] at h; cases h
 |cons q es ih =>
  obtain⟨a,b⟩:=q
  intro row h
  simp only[List.cons_append,wz] at h ⊢
  cases hb:k==a with
  |true=>rw[hb] at h; exact .inl h
  |false=>rw[hb] at h; exact ih h
theorem iL.add{n vals:Nat}{l:List Clause}{es:List (Int×List Bool)}{e:Elem}(h:iL n l es)(hl: ∀ k∈l,yG n vals k)(he:SL n e):iL n l (es++[(keyE (bF l) e,fH l e)]):=by
 intro f hf row hr
 rcases VD hr with hr|⟨h1,rfl⟩
 ·exact h f hf row hr
 ·exact Yx hl he hf h1.symm
def eX(b:Nat):Nat->Nat->List Int
 |0,_=>[]
 |n+1,v=>eX b n (v / b)++[((v % b:Nat):Int)]
theorem dW{b:Nat}: ∀ {n v:Nat},(eX b n v).length=n:=by
 intro n
 induction n with
 |zero=>intro v; rfl
 |succ n ih=>intro v; simp[eX,ih]
theorem Gy{b:Nat}(hb:0<b): ∀ {n v:Nat},∀ x∈eX b n v,0<=x/\x<b:=by
 intro n
 induction n with
 |zero=>intro v x h; cases h
 |succ n ih =>
  intro v x h
  rcases List.mem_append.1 h with h|h
  ·exact ih x h
  ·rw[List.mem_singleton] at h; subst h
   have:=Nat.mod_lt v hb
   omega
theorem Gz{b n u:Nat}(hb:0<b): ∀ {k:Nat},eX b (n+k) (u*b^k)=eX b n u++List.replicate k 0:=by
 intro k
 induction k with
 |zero=>simp
 |succ k ih =>
  rw[<- Nat.add_assoc]
  simp only[eX]
  rw[Nat.pow_succ,<- Nat.mul_assoc,Nat.mul_div_cancel _ hb,ih,Nat.mul_mod_left,List.append_assoc,List.replicate_succ']
  rfl
theorem zS{b n:Nat}(hb:0<b):eX b n 0=List.replicate n 0:=by
 have:=@Gz b 0 0 hb n
 simpa [eX] using this
theorem MR{b:Nat}(hb:0<b): ∀ {n v:Nat},v<b^n->v≠0->0<(eX b n v).sum:=by
 intro n
 induction n with
 |zero=>intro v h h0; simp at h; omega
 |succ n ih =>
  intro v h h0
  simp only[eX,List.sum_append,List.sum_singleton]
  have hnn:0<=(eX b n (v / b)).sum:=by
   have: ∀ l:List Int,(∀ x∈l,0<=x)->0<=l.sum:=by
    intro l
    induction l with
    |nil=>intro _; simp
    |cons x l ih=>intro h; have:=h x (by simp); have:=ih fun y hy=>h y (by simp[hy]); simp only[List.sum_cons]; omega
   exact this _ fun x hx=>(Gy hb x hx).1
  by_cases hd:v / b=0
  ·have h1:v<b:=by rcases Nat.div_eq_zero_iff.1 hd with h|h<;>omega
   have:v % b=v:=Nat.mod_eq_of_lt h1
   omega
  ·have:v / b<b^n:=by
    rw[Nat.div_lt_iff_lt_mul hb,<- Nat.pow_succ]; exact h
   have:=ih this hd
   omega
def sO(b n v k:Nat):List Int:=eX b (n-k) (v / b^k)++List.replicate k 0
theorem Ju{b n v k:Nat}(h:k<=n):(sO b n v k).length=n:=by simp[sO,dW]; omega
theorem GH{b n v:Nat}:sO b n v 0=eX b n v:=by simp[sO]
theorem oI{b n v k:Nat}(h:k<n):sO b n v k=eX b (n-k-1) (v / b^k / b)++(((v / b^k % b:Nat):Int)::List.replicate k 0):=by
 unfold sO
 obtain⟨j,hj⟩: ∃ j,n-k=j+1:=⟨n-k-1,by omega⟩
 rw[hj,eX,List.append_assoc]; rfl
theorem GI{b n v k:Nat}(_h:k<n):sO b n v (k+1)=eX b (n-k-1) (v / b^k / b)++((0:Int)::List.replicate k 0):=by
 unfold sO
 rw[Nat.pow_succ,<- Nat.div_div_eq_div_mul,Nat.sub_add_eq,List.replicate_succ]
theorem QX{a b:Nat}(hb:0<b)(h:a % b+1≠b):(a+1) / b=a / b/\(a+1) % b=a % b+1:=by
 have h1:=Nat.mod_lt a hb
 have h2:=Nat.div_add_mod a b
 have e:a+1=(a % b+1)+b*(a / b):=by omega
 have h3:a % b+1<b:=by omega
 constructor
 ·rw[e,Nat.add_mul_div_left _ _ hb,Nat.div_eq_of_lt h3]; omega
 ·rw[e,Nat.add_mul_mod_self_left,Nat.mod_eq_of_lt h3]
theorem VE{a b:Nat}(_hb:0<b)(h:a % b+1=b):(a / b+1)*b=a+1:=by
 have h2:=Nat.div_add_mod a b
 rw[Nat.succ_mul,Nat.mul_comm]; omega
theorem Jv{b n v k:Nat}(hb:0<b)(h:k<n)(h3:v / b^k % b+1≠b)(hv:v+1=(v / b^k+1)*b^k):eX b (n-k-1) (v / b^k / b)++((((v / b^k % b:Nat):Int)+1)::List.replicate k 0)=eX b n (v+1):=by
 have e:eX b n (v+1)=eX b ((n-k-1+1)+k) ((v / b^k+1)*b^k):=by rw[<- hv]; congr 1; omega
 obtain⟨m1,m2⟩:=QX hb h3
 rw[e,Gz hb,eX,List.append_assoc,m1,m2]
 rfl
theorem GK{b v k:Nat}(hb:0<b)(h3:v / b^k % b+1=b)(hv:v+1=(v / b^k+1)*b^k):v+1=(v / b^(k+1)+1)*b^(k+1):=by
 have e:v / b^(k+1)=v / b^k / b:=by rw[Nat.pow_succ,<- Nat.div_div_eq_div_mul]
 rw[e,Nat.pow_succ,Nat.mul_comm (b^k) b,<- Nat.mul_assoc,VE hb h3]
 exact hv
theorem QY{b n v k:Nat}(hb:0<b)(h:k<n)(hlt:v<b^n)(h3:v / b^k % b+1≠b)(hv:v+1=(v / b^k+1)*b^k):v+1<b^n:=by
 have e:b^n=b^(n-k-1)*b*b^k:=by
  rw[<- Nat.pow_succ,<- Nat.pow_add]; congr 1; omega
 have h1:v / b^k<b^(n-k-1)*b:=by
  rw[Nat.div_lt_iff_lt_mul (Nat.pow_pos hb),<- e]; exact hlt
 have h2:v / b^k+1<b^(n-k-1)*b:=by
  rcases Nat.lt_or_ge (v / b^k+1) (b^(n-k-1)*b) with g|g
  ·exact g
  ·exfalso
   have e2:v / b^k+1=b^(n-k-1)*b:=by omega
   have m:=(QX hb h3).2
   rw[e2,Nat.mul_mod_left] at m
   omega
 rw[hv,e]
 exact Nat.mul_lt_mul_of_pos_right h2 (Nat.pow_pos hb)
theorem MS{b n v:Nat}(hlt:v<b^n)(hv:v+1=(v / b^n+1)*b^n):v+1=b^n:=by
 rw[Nat.div_eq_of_lt hlt] at hv; omega
def sU(b n w u:Nat):List Elem:=(List.range u).map fun v=>⟨(w:Int),eX b n (v+1)⟩
def eY(b n vals:Nat):List Elem:=(List.range vals).flatMap fun w=>sU b n w (b^n-1)
theorem Jw{b n w u:Nat}:sU b n w (u+1)=sU b n w u++[⟨(w:Int),eX b n (u+1)⟩]:=by
 unfold sU; rw[List.range_succ,List.map_append]; rfl
theorem zT{b n w:Nat}:eY b n (w+1)=eY b n w++sU b n w (b^n-1):=by
 unfold eY; rw[List.range_succ,List.flatMap_append]; simp
theorem GL{b n w u:Nat}:(sU b n w u).length=u:=by simp[sU]
theorem pG{b n vals:Nat}:(eY b n vals).length=vals*(b^n-1):=by
 induction vals with
 |zero=>simp[eY]
 |succ w ih=>rw[zT,List.length_append,ih,GL,Nat.succ_mul]
structure yx(b n vals:Nat)(e:Elem):Prop where
 len:e.counts.length=n
 rng: ∀ x∈e.counts,0<=x/\x<b
 val:0<=e.value/\e.value<vals
 pos:0<e.counts.sum
theorem xI{b n vals:Nat}(hb:0<b): ∀ e∈eY b n vals,yx b n vals e:=by
 intro e h
 obtain⟨w,hw,h2⟩:=List.mem_flatMap.1 h
 obtain⟨v,hv,rfl⟩:=List.mem_map.1 h2
 have:=List.mem_range.1 hw
 have:=List.mem_range.1 hv
 have hp:0<b^n:=Nat.pow_pos hb
 exact⟨dW,fun x hx=>Gy hb x hx,⟨by show(0:Int)<=w; omega,by show(w:Int)<vals; omega⟩,MR hb (by omega) (by omega)⟩
def allB(b n:Nat):List (List Int):=(List.range (b^n)).map (eX b n)
theorem filter_some{α β:Type}{g:α->Option β}{f:α->β}{l:List α}(h: ∀ v∈l,g v=some (f v)):l.filterMap g=l.map f:=by
 induction l with
 |nil=>rfl
 |cons x l ih=>rw[List.filterMap_cons,h x (by simp),List.map_cons,ih fun y hy=>h y (by simp[hy])]
theorem VF{b n w:Nat}(hb:0<b):((allB b n).filterMap fun c=>bif decide (c.sum>0) then some (⟨(w:Int),c⟩:Elem) else none)=sU b n w (b^n-1):=by
 obtain⟨m,hm⟩: ∃ m,b^n=m+1:=⟨b^n-1,by have:=Nat.pow_pos (n:=n) hb; omega⟩
 unfold allB sU
 rw[hm,Nat.add_sub_cancel,List.range_succ_eq_map,List.map_cons,zS hb,List.filterMap_cons]
 have hz:(List.replicate n (0:Int)).sum=0:=by simp
 simp only[hz,gt_iff_lt,Int.lt_irrefl,decide_false,cond_false]
 rw[List.map_map,List.filterMap_map]
 refine filter_some fun v hv=>?_
 have:v+1<b^n:=by have:=List.mem_range.1 hv; omega
 have:=MR hb this (by omega)
 simp only[Function.comp,Nat.succ_eq_add_one]
 rw[show decide (0<(eX b n (v+1)).sum)=true from decide_eq_true this]
 rfl
theorem Jy{b k:Nat}(hb:0<b)(hk:k<b): ∀ {m u:Nat},u<b^m->eX b (m+1) (k*b^m+u)=(k:Int)::eX b m u:=by
 intro m
 induction m with
 |zero =>
  intro u hu
  have h:u=0:=(by simpa using hu)
  subst h
  simp only[eX,Nat.pow_zero,Nat.mul_one,Nat.add_zero,List.nil_append]
  rw[Nat.mod_eq_of_lt hk]
 |succ m ih =>
  intro u hu
  rw[Nat.pow_succ] at hu
  have e:k*b^(m+1)=b*(k*b^m):=by rw[Nat.pow_succ,<- Nat.mul_assoc,Nat.mul_comm]
  rw[e,eX]
  rw[Nat.mul_add_div hb,Nat.mul_add_mod,ih (show u / b<b^m by rw[Nat.div_lt_iff_lt_mul hb]; exact hu),eX]
  rfl
def je(b n j:Nat):List (List Int):=(List.range (b^(n-j))).map fun u=>List.replicate j 0++eX b (n-j) u
def um(b n j k:Nat):List (List Int):=(List.range k).flatMap fun k=>(je b n (j+1)).map fun c=>c.set j (k:Int)
theorem GN{b n j k:Nat}:um b n j (k+1)=um b n j k++(je b n (j+1)).map fun c=>c.set j (k:Int):=by
 unfold um
 rw[List.range_succ,List.flatMap_append]; simp
theorem Jz{b n j:Nat}(hb:0<b):(je b n j).length<=b^n:=by
 simp only[je,List.length_map,List.length_range]
 exact Nat.pow_le_pow_right hb (by omega)
theorem SN{b n j k:Nat}(hb:0<b):(um b n j k).length<=k*b^n:=by
 induction k with
 |zero=>simp[um]
 |succ k ih =>
  rw[GN,List.length_append,List.length_map,Nat.succ_mul]
  have:=@Jz b n (j+1) hb
  omega
theorem Po{α:Type}{M:Nat}{f:Nat->α}: ∀ {a:Nat},(List.range (a*M)).map f=(List.range a).flatMap fun k=>(List.range M).map fun u=>f (k*M+u):=by
 intro a
 induction a with
 |zero=>simp
 |succ a ih =>
  rw[Nat.succ_mul,List.range_add,List.map_append,ih,List.range_succ,List.flatMap_append]
  simp
theorem Pq{b n j:Nat}(hb:0<b)(hj:j<n):um b n j b=je b n j:=by
 have e:n-j=(n-(j+1))+1:=by omega
 unfold um je
 rw[e,Nat.pow_succ,Nat.mul_comm,Po]
 refine congrArg List.flatten (List.map_congr_left fun k hk=>?_)
 rw[List.map_map]
 refine List.map_congr_left fun u hu=>?_
 rw[Jy hb (List.mem_range.1 hk) (List.mem_range.1 hu)]
 show(List.replicate (j+1) 0++eX b (n-(j+1)) u).set j (k:Int)=_
 rw[List.replicate_succ',List.append_assoc]
 have: ∀ (l:List Int) (r:List Int) (x y:Int),l.length=j->(l++([x]++r)).set j y=l++(y::r):=by
  intro l r x y h; subst h; simp
 exact this _ _ _ _ (by simp)
theorem SQ{b n:Nat}:je b n 0=allB b n:=by simp[je,allB]
theorem SS{b n j:Nat}(hj:j<=n){c:List Int}(h:c∈je b n j):c.length=n:=by
 obtain⟨u,_,rfl⟩:=List.mem_map.1 h
 simp[dW]; omega
structure o9(k:Clause):Prop where
 each:k.each.length<2^30
 rows: ∀ i,(k.each.getD i []).length<2^30
 values:k.values.length<2^30
 some:k.some.length<2^30
structure SmallK(l:List Clause):Prop where
 len:l.length<2^30
 cl: ∀ i,o9 (l.getD i default)
def xB(p:aU):Int:=bif dn p==0&& !(jQ p).monadic then 7 else dn p
def Ef(p:aU)(q:Prop'):Int:=bif rH p q !=0 then rH p q else eu (xB p !=0||q.kind !=1) 7
def nK(n:Int)(s:List Int):Int:=bif dU s n !=0 then dU s n else eu ((s.length:Int)==0) 1
def uX(p:aU)(k:Clause):Int :=
 bif decide ((k.each.length:Int)>2) then 1 else
 bif aQ (k.each.map (nK p.states.length)) !=0 then aQ (k.each.map (nK p.states.length)) else
 bif dU k.values p.values.length !=0 then dU k.values p.values.length else dU k.some p.states.length
def jg(p:aU)(l:List Clause):Int:=bif decide ((l.length:Int)>160) then 4 else aQ (l.map (uX p))
theorem S.ku(l:List Int)(n:Int)(f:Bool)(hl:l.length<2^40):ak Tryz.prog 43 [.row 0 f (.ints l),.int n] (.int (dU l n)):=by
 refine ak.of Bd.ku (by simp) rfl rfl ?_
 conv=>whnf
 refine aJ.same [0,1,8,9] (fun i:Nat=>[(10,.int i)]) (fun i=>i<=l.length/\(l.take i).any (fun i=>ou i n)=false) (fun i=>l.length-i) 0 rfl (by decide) rfl (fun _=>rfl) ⟨by omega,by simp⟩ ⟨⟨_,rfl,rfl⟩,trivial⟩ ?_
 conv=>whnf
 refine⟨rfl,?_⟩
 rintro i ⟨hi,hall⟩
 conv=>whnf
 refine⟨fun h3=>?_,fun h3=>?_⟩
 ·have hi':i<l.length:=by simpa using h3
  conv=>whnf
  repeat(refine VC.mk (by first|exact fun h=>⟨h,h⟩|(intro h; rw[h]; rfl)|(simp only[Rw.rng] at *; omega)) ?_; conv=>whnf)
  refine⟨fun h4=>?_,fun h4=>?_⟩
  ·conv=>whnf
   refine au.int ?_
   rw[dU,jq (d:=0) hi' h4]; rfl
  ·conv=>whnf
   refine .mk (by simp only[okI] at *; omega) ?_
   conv=>whnf
   refine⟨i+1,⟨by omega,?_⟩,by omega,⟨⟨_,rfl,rfl⟩,trivial⟩,?_,rfl⟩
   ·rw[lJ (d:=0) hi' hall]; exact h4
   ·repeat' (first|exact trivial|exact⟨_,rfl,rfl⟩|constructor)
 ·have hi':l.length<=i:=by simpa using h3
  rw[List.take_of_length_le hi'] at hall
  conv=>whnf
  refine aJ.same [0] (fun i:Nat=>[(7,.int (i+1))]) (fun i=>(i<l.length\/i=0)/\vT l=vT (l.drop i)) (fun i=>l.length-i) 0 rfl (by decide) rfl (fun _=>rfl) ⟨by omega,by simp⟩ ⟨⟨_,rfl,rfl⟩,trivial⟩ ?_
  conv=>whnf
  refine⟨rfl,?_⟩
  rintro i ⟨hi,hinc⟩
  conv=>whnf
  refine⟨fun h5=>?_,fun h5=>?_⟩
  ·have hi1:i+1<l.length:=by have:=of_decide_eq_true h5; omega
   rw[aY 0 (show i<l.length by omega),aY 0 hi1] at hinc
   simp only[vT] at hinc
   rw[<- aY 0 hi1] at hinc
   conv=>whnf
   repeat(refine VC.mk (by simp only[okI,Rw.rng] at *; omega) ?_; conv=>whnf)
   refine⟨fun h6=>?_,fun h6=>?_⟩
   ·conv=>whnf
    refine au.int ?_
    have e1:((i:Int)+1).toNat=i+1:=by omega
    have e2:((i:Int)+1-1).toNat=i:=by omega
    rw[e1,e2] at h6
    have h6':l.getD (i+1) 0<=l.getD i 0:=of_decide_eq_true h6
    rw[dU,hall,hinc,decide_eq_false (by omega)]; rfl
   ·conv=>whnf
    refine .mk (by simp only[okI] at *; omega) ?_
    conv=>whnf
    have e1:((i:Int)+1).toNat=i+1:=by omega
    have e2:((i:Int)+1-1).toNat=i:=by omega
    rw[e1,e2] at h6
    have h6': ¬ l.getD (i+1) 0<=l.getD i 0:=of_decide_eq_false h6
    rw[decide_eq_true (by omega),Bool.true_and] at hinc
    refine⟨i+1,⟨by omega,hinc⟩,by omega,⟨⟨_,rfl,rfl⟩,trivial⟩,?_,rfl⟩
    repeat' (first|exact trivial|exact⟨_,rfl,rfl⟩|constructor)
  ·conv=>whnf
   refine au.int ?_
   have h5': ¬ ((i:Int)+1<l.length):=of_decide_eq_false h5
   have:vT l=true:=by
    rw[hinc]
    rcases hd:l.drop i with _|⟨a,_|⟨b,r⟩⟩
    ·rfl
    ·rfl
    ·have:=congrArg List.length hd
     simp only[List.length_drop,List.length_cons] at this
     omega
   rw[dU,hall,this]; rfl
theorem S.xJ(l:List Int)(n:Int)(f:Bool)(hl:l.length<2^40):ak Tryz.prog 55 [.row 0 f (.ints l),.int n] (.int (dU l n)):=by
 refine ak.of Bd.xJ (by simp) rfl rfl ?_
 conv=>whnf
 refine aJ.same [0,1] (fun i:Nat=>[(5,.int i)]) (fun i=>i<=l.length/\(l.take i).any (fun i=>ou i n)=false) (fun i=>l.length-i) 0 rfl (by decide) rfl (fun _=>rfl) ⟨by omega,by simp⟩ ⟨⟨_,rfl,rfl⟩,trivial⟩ ?_
 conv=>whnf
 refine⟨rfl,?_⟩
 rintro i ⟨hi,hall⟩
 conv=>whnf
 refine⟨fun h3=>?_,fun h3=>?_⟩
 ·have hi':i<l.length:=by simpa using h3
  conv=>whnf
  repeat(refine VC.mk (by first|exact id|exact fun h=>⟨h,h⟩|(intro h; rw[h]; rfl)|(intro h; (repeat' apply And.intro)<;>first|exact h|omega|(simp only[Rw.lg]; omega)|(simp only[Rw.rng]; omega))|(simp only[Rw.rng] at *; omega)) ?_; conv=>whnf)
  refine⟨fun h4=>?_,fun h4=>?_⟩
  ·conv=>whnf
   refine au.int ?_
   rw[dU,jq (d:=0) hi' h4]; rfl
  ·conv=>whnf
   refine .mk (by simp only[okI] at *; omega) ?_
   conv=>whnf
   refine⟨i+1,⟨by omega,?_⟩,by omega,⟨⟨_,rfl,rfl⟩,trivial⟩,?_,rfl⟩
   ·rw[lJ (d:=0) hi' hall]; exact h4
   ·repeat' (first|exact trivial|exact⟨_,rfl,rfl⟩|constructor)
 ·have hi':l.length<=i:=by simpa using h3
  rw[List.take_of_length_le hi'] at hall
  conv=>whnf
  refine aJ.same [0] (fun i:Nat=>[(6,.int (i+1))]) (fun i=>(i<l.length\/i=0)/\vT l=vT (l.drop i)) (fun i=>l.length-i) 0 rfl (by decide) rfl (fun _=>rfl) ⟨by omega,by simp⟩ ⟨⟨_,rfl,rfl⟩,trivial⟩ ?_
  conv=>whnf
  refine⟨rfl,?_⟩
  rintro i ⟨hi,hinc⟩
  conv=>whnf
  refine⟨fun h5=>?_,fun h5=>?_⟩
  ·have hi1:i+1<l.length:=by have:=of_decide_eq_true h5; omega
   rw[aY 0 (show i<l.length by omega),aY 0 hi1] at hinc
   simp only[vT] at hinc
   rw[<- aY 0 hi1] at hinc
   conv=>whnf
   repeat(refine VC.mk (by simp only[okI,Rw.rng] at *; omega) ?_; conv=>whnf)
   refine⟨fun h6=>?_,fun h6=>?_⟩
   ·conv=>whnf
    refine au.int ?_
    have e1:((i:Int)+1).toNat=i+1:=by omega
    have e2:((i:Int)+1-1).toNat=i:=by omega
    rw[e1,e2] at h6
    have h6':l.getD i 0>=l.getD (i+1) 0:=of_decide_eq_true h6
    rw[dU,hall,hinc,decide_eq_false (by omega)]; rfl
   ·conv=>whnf
    refine .mk (by simp only[okI] at *; omega) ?_
    conv=>whnf
    have e1:((i:Int)+1).toNat=i+1:=by omega
    have e2:((i:Int)+1-1).toNat=i:=by omega
    rw[e1,e2] at h6
    have h6': ¬ l.getD i 0>=l.getD (i+1) 0:=of_decide_eq_false h6
    rw[decide_eq_true (by omega),Bool.true_and] at hinc
    refine⟨i+1,⟨by omega,hinc⟩,by omega,⟨⟨_,rfl,rfl⟩,trivial⟩,?_,rfl⟩
    repeat' (first|exact trivial|exact⟨_,rfl,rfl⟩|constructor)
  ·conv=>whnf
   refine au.int ?_
   have h5': ¬ ((i:Int)+1<l.length):=of_decide_eq_false h5
   have:vT l=true:=by
    rw[hinc]
    rcases hd:l.drop i with _|⟨a,_|⟨b,r⟩⟩
    ·rfl
    ·rfl
    ·have:=congrArg List.length hd
     simp only[List.length_drop,List.length_cons] at this
     omega
   rw[dU,hall,this]; rfl
theorem S.dX(p:aU)(hp:dh p):ak Tryz.prog 16 [.dat (.dF p)] (.int (xB p)):=by
 refine ak.of Bd.dX (by simp) rfl rfl ?_
 conv=>whnf
 refine ah.pure (S.jR p hp) rfl ?_
 conv=>whnf
 repeat(refine VC.mk id ?_; conv=>whnf)
 refine⟨fun h1=>?_,fun h1=>?_⟩
 ·conv=>whnf
  have h2:dn p=0:=by
   cases hv:(dn p==0) with
   |true=>exact beq_iff_eq.1 hv
   |false=>rw[hv] at h1; cases h1
  refine au.int ?_
  rw[xB,h2]
  rw[show(bif (dn p !=0) then JA else jQ p)=jQ p by rw[h2]; rfl] at h1
  rw[h2] at h1
  rw[show((0:Int)==0&& !(jQ p).monadic)=true from h1]; rfl
 ·conv=>whnf
  refine au.int ?_
  unfold xB
  cases hv:(dn p==0) with
  |false=>rfl
  |true =>
   rw[show(bif (dn p !=0) then JA else jQ p)=jQ p by rw[beq_iff_eq.1 hv]; rfl,hv] at h1
   rw[show(true&& !(jQ p).monadic)=false from h1]; rfl
theorem S.uo(p:aU)(hp:dh p):ak Tryz.prog 18 [.dat (.dF p)] (.int (xB p)):=by
 refine ak.of Bd.uo (by simp) rfl rfl ?_
 conv=>whnf
 refine ah.pure (S.pI p hp) rfl ?_
 conv=>whnf
 refine⟨fun h1=>?_,fun h1=>?_⟩
 ·conv=>whnf
  exact au.int (by rw[xB,show(dn p==0)=false from beq_eq_false_iff_ne.2 (JB h1)]; rfl)
 have h2:=xw h1
 conv=>whnf
 refine⟨fun h3=>?_,fun h3=>?_⟩
 ·conv=>whnf
  refine au.int ?_
  rw[show(bif (dn p !=0) then JA else jQ p)=jQ p by rw[h2]; rfl] at h3
  rw[xB,h2,show((0:Int)==0&& !(jQ p).monadic)=true from h3]; rfl
 ·conv=>whnf
  refine au.int ?_
  rw[show(bif (dn p !=0) then JA else jQ p)=jQ p by rw[h2]; rfl] at h3
  rw[xB,h2,show((0:Int)==0&& !(jQ p).monadic)=false from h3]; rfl
theorem S.lM(p:aU)(q:Prop')(hp:dh p)(hq:vO q):ak Tryz.prog 69 [.dat (.dF p),.dat (.prop q)] (.int (Ef p q)):=by
 refine ak.of Bd.lM (by simp) rfl rfl ?_
 conv=>whnf
 refine ah.pure (S.dL p q hp hq) rfl ?_
 conv=>whnf
 refine⟨fun h1=>?_,fun h1=>?_⟩
 ·conv=>whnf
  exact au.int (by rw[Ef,h1]; rfl)
 conv=>whnf
 refine ah.pure (S.dX p hp) rfl ?_
 conv=>whnf
 repeat(refine VC.mk (by first|exact id|(intro h; rw[h]; rfl)) ?_; conv=>whnf)
 refine⟨fun h2=>?_,fun h2=>?_⟩
 ·conv=>whnf
  exact au.int (by rw[Ef,h1,show(xB p !=0||q.kind !=1)=true by simpa using h2]; rfl)
 ·conv=>whnf
  exact au.int (by rw[Ef,h1,show(xB p !=0||q.kind !=1)=false by simpa using h2]; rfl)
theorem GR(a:Int)(r:List Int):aQ (a::r)=bif a !=0 then a else aQ r:=by
 by_cases h:a=0
 ·subst h; rfl
 ·rw[show(a !=0)=true by simp[h]]; simp[aQ,h]
theorem JC{n:Int}{k:Clause}{i:Nat}(hi:i<k.each.length):aQ ((k.each.drop i).map (nK n))=bif nK n (k.each.getD i []) !=0 then nK n (k.each.getD i []) else aQ ((k.each.drop (i+1)).map (nK n)):=by
 rw[aY [] hi,List.map_cons,GR]
theorem CW{p:aU}{l:List Clause}{i:Nat}(hi:i<l.length):aQ ((l.drop i).map (uX p))=bif uX p (l.getD i default) !=0 then uX p (l.getD i default) else aQ ((l.drop (i+1)).map (uX p)):=by
 rw[aY default hi,List.map_cons,GR]
theorem S.bY(p:aU)(k:Clause)(hp:dh p)(hk:o9 k):ak Tryz.prog 21 [.dat (.dF p),.dat (.clause k)] (.int (uX p k)):=by
 have g1:=hp.states; have g2:=hp.values; have k1:=hk.each; have k2:=hk.values; have k3:=hk.some
 refine ak.of Bd.bY (by simp) rfl rfl ?_
 conv=>whnf
 refine⟨fun h1=>?_,fun h1=>?_⟩
 ·conv=>whnf
  exact au.int (by rw[uX,h1]; rfl)
 conv=>whnf
 refine aJ.same [2,3,14,15] (fun i:Nat=>[(16,.int i)]) (fun i=>i<=k.each.length/\aQ (k.each.map (nK p.states.length))=aQ ((k.each.drop i).map (nK p.states.length))) (fun i=>k.each.length-i) 0 rfl (by decide) rfl (fun _=>rfl) ⟨by omega,by simp⟩ ⟨⟨_,rfl,rfl⟩,trivial⟩ ?_
 conv=>whnf
 refine⟨rfl,?_⟩
 rintro i ⟨hi,hf⟩
 have k4:=hk.rows i
 conv=>whnf
 refine⟨fun h3=>?_,fun h3=>?_⟩
 ·have hi':i<k.each.length:=by simpa using h3
  rw[JC hi'] at hf
  conv=>whnf
  refine .mk (by simp only[Rw.rng] at *; first|omega|(simp_all; done)|(simp_all; omega)) ?_
  conv=>whnf
  refine ah.pure (S.ku (k.each.getD i []) p.states.length false (by omega)) rfl ?_
  conv=>whnf
  refine⟨fun h4=>?_,fun h4=>?_⟩
  ·conv=>whnf
   refine au.int ?_
   have e:nK p.states.length (k.each.getD i [])=dU (k.each.getD i []) p.states.length:=by rw[nK,show(dU (k.each.getD i []) p.states.length !=0)=true from h4]; rfl
   rw[e,show(dU (k.each.getD i []) p.states.length !=0)=true from h4,cond_true] at hf
   rw[uX,h1,hf,show(dU (k.each.getD i []) p.states.length !=0)=true from h4]; rfl
  ·have h4':(dU (k.each.getD i []) p.states.length !=0)=false:=h4
   have e:nK p.states.length (k.each.getD i [])=eu (((k.each.getD i []).length:Int)==0) 1:=by rw[nK,h4']; rfl
   rw[e] at hf
   conv=>whnf
   refine⟨fun h5=>?_,fun h5=>?_⟩
   ·conv=>whnf
    refine au.int ?_
    rw[show(((k.each.getD i []).length:Int)==0)=true from h5] at hf
    rw[uX,h1,hf]; rfl
   ·conv=>whnf
    refine .mk (by simp only[okI] at *; first|omega|(simp_all; done)|(simp_all; omega)) ?_
    conv=>whnf
    rw[show(((k.each.getD i []).length:Int)==0)=false from h5] at hf
    refine⟨i+1,⟨by omega,hf⟩,by omega,⟨⟨_,rfl,rfl⟩,trivial⟩,?_,rfl⟩
    repeat' (first|exact trivial|exact⟨_,rfl,rfl⟩|constructor)
 ·have hi':k.each.length<=i:=by simpa using h3
  rw[List.drop_eq_nil_of_le hi'] at hf
  have hf0:aQ (k.each.map (nK p.states.length))=0:=hf
  conv=>whnf
  refine ah.pure (S.ku k.values p.values.length false (by omega)) rfl ?_
  conv=>whnf
  refine⟨fun h6=>?_,fun h6=>?_⟩
  ·conv=>whnf
   exact au.int (by rw[uX,h1,hf0,show(dU k.values p.values.length !=0)=true from h6]; rfl)
  ·conv=>whnf
   refine ah.pure (S.ku k.some p.states.length false (by omega)) rfl ?_
   conv=>whnf
   exact au.int (by rw[uX,h1,hf0,show(dU k.values p.values.length !=0)=false from h6]; rfl)
theorem S.uq(p:aU)(k:Clause)(hp:dh p)(hk:o9 k):ak Tryz.prog 33 [.dat (.dF p),.dat (.clause k)] (.int (uX p k)):=by
 have g1:=hp.states; have g2:=hp.values; have k1:=hk.each; have k2:=hk.values; have k3:=hk.some
 refine ak.of Bd.uq (by simp) rfl rfl ?_
 conv=>whnf
 refine⟨fun h1=>?_,fun h1=>?_⟩
 ·conv=>whnf
  exact au.int (by rw[uX,h1]; rfl)
 conv=>whnf
 refine aJ.same [2,3] (fun i:Nat=>[(5,.int i)]) (fun i=>i<=k.each.length/\aQ (k.each.map (nK p.states.length))=aQ ((k.each.drop i).map (nK p.states.length))) (fun i=>k.each.length-i) 0 rfl (by decide) rfl (fun _=>rfl) ⟨by omega,by simp⟩ ⟨⟨_,rfl,rfl⟩,trivial⟩ ?_
 conv=>whnf
 refine⟨rfl,?_⟩
 rintro i ⟨hi,hf⟩
 have k4:=hk.rows i
 conv=>whnf
 refine⟨fun h3=>?_,fun h3=>?_⟩
 ·have hi':i<k.each.length:=by simpa using h3
  rw[JC hi'] at hf
  conv=>whnf
  refine .mk (by simp only[Rw.rng] at *; first|omega|(simp_all; done)|(simp_all; omega)) ?_
  conv=>whnf
  refine ah.pure (S.xJ (k.each.getD i []) p.states.length false (by omega)) rfl ?_
  conv=>whnf
  refine⟨fun h4=>?_,fun h4=>?_⟩
  ·conv=>whnf
   refine au.int ?_
   have e:nK p.states.length (k.each.getD i [])=dU (k.each.getD i []) p.states.length:=by rw[nK,show(dU (k.each.getD i []) p.states.length !=0)=true from h4]; rfl
   rw[e,show(dU (k.each.getD i []) p.states.length !=0)=true from h4,cond_true] at hf
   rw[uX,h1,hf,show(dU (k.each.getD i []) p.states.length !=0)=true from h4]; rfl
  ·have h4':(dU (k.each.getD i []) p.states.length !=0)=false:=h4
   have e:nK p.states.length (k.each.getD i [])=eu (((k.each.getD i []).length:Int)==0) 1:=by rw[nK,h4']; rfl
   rw[e] at hf
   conv=>whnf
   refine .mk (by simp only[Rw.rng] at *; first|omega|(simp_all; done)|(simp_all; omega)) ?_
   conv=>whnf
   refine⟨fun h5=>?_,fun h5=>?_⟩
   ·conv=>whnf
    refine au.int ?_
    rw[show(((k.each.getD i []).length:Int)==0)=true from h5] at hf
    rw[uX,h1,hf]; rfl
   ·conv=>whnf
    refine .mk (by simp only[okI] at *; first|omega|(simp_all; done)|(simp_all; omega)) ?_
    conv=>whnf
    rw[show(((k.each.getD i []).length:Int)==0)=false from h5] at hf
    refine⟨i+1,⟨by omega,hf⟩,by omega,⟨⟨_,rfl,rfl⟩,trivial⟩,?_,rfl⟩
    repeat' (first|exact trivial|exact⟨_,rfl,rfl⟩|constructor)
 ·have hi':k.each.length<=i:=by simpa using h3
  rw[List.drop_eq_nil_of_le hi'] at hf
  have hf0:aQ (k.each.map (nK p.states.length))=0:=hf
  conv=>whnf
  refine ah.pure (S.xJ k.values p.values.length false (by omega)) rfl ?_
  conv=>whnf
  refine⟨fun h6=>?_,fun h6=>?_⟩
  ·conv=>whnf
   exact au.int (by rw[uX,h1,hf0,show(dU k.values p.values.length !=0)=true from h6]; rfl)
  ·conv=>whnf
   refine ah.pure (S.xJ k.some p.states.length false (by omega)) rfl ?_
   conv=>whnf
   exact au.int (by rw[uX,h1,hf0,show(dU k.values p.values.length !=0)=false from h6]; rfl)
theorem S.rJ(p:aU)(l:List Clause)(f:Bool)(hp:dh p)(hl:SmallK l):ak Tryz.prog 32 [.dat (.dF p),.row 4 f (.clauses l)] (.int (jg p l)):=by
 have k1:=hl.len
 refine ak.of Bd.rJ (by simp) rfl rfl ?_
 conv=>whnf
 refine⟨fun h1=>?_,fun h1=>?_⟩
 ·conv=>whnf
  exact au.int (by rw[jg,h1]; rfl)
 conv=>whnf
 refine aJ.same [1,2] (fun i:Nat=>[(5,.int i)]) (fun i=>i<=l.length/\aQ (l.map (uX p))=aQ ((l.drop i).map (uX p))) (fun i=>l.length-i) 0 rfl (by decide) rfl (fun _=>rfl) ⟨by omega,by simp⟩ ⟨⟨_,rfl,rfl⟩,trivial⟩ ?_
 conv=>whnf
 refine⟨rfl,?_⟩
 rintro i ⟨hi,hf⟩
 conv=>whnf
 refine⟨fun h3=>?_,fun h3=>?_⟩
 ·have hi':i<l.length:=by simpa using h3
  rw[CW hi'] at hf
  conv=>whnf
  refine .mk (by simp only[Rw.rng] at *; first|omega|(simp_all; done)|(simp_all; omega)) ?_
  conv=>whnf
  refine ah.pure (S.uq p (l.getD i default) hp (hl.cl i)) rfl ?_
  conv=>whnf
  refine⟨fun h4=>?_,fun h4=>?_⟩
  ·conv=>whnf
   rw[show(uX p (l.getD i default) !=0)=true from h4] at hf
   exact au.int (by rw[jg,h1,hf]; rfl)
  ·conv=>whnf
   refine .mk (by simp only[okI] at *; first|omega|(simp_all; done)|(simp_all; omega)) ?_
   conv=>whnf
   rw[show(uX p (l.getD i default) !=0)=false from h4] at hf
   refine⟨i+1,⟨by omega,hf⟩,by omega,⟨⟨_,rfl,rfl⟩,trivial⟩,?_,rfl⟩
   repeat' (first|exact trivial|exact⟨_,rfl,rfl⟩|constructor)
 ·have hi':l.length<=i:=by simpa using h3
  rw[List.drop_eq_nil_of_le hi'] at hf
  conv=>whnf
  exact au.int (by rw[jg,h1,hf]; rfl)
theorem S.gQ(p:aU)(k:Clause)(hp:dh p)(hk:o9 k):ak Tryz.prog 9 [.dat (.dF p),.dat (.clause k)] (.int (bif xB p !=0 then xB p else uX p k)):=by
 refine ak.of Bd.gQ (by simp) rfl rfl ?_
 conv=>whnf
 refine ah.pure (S.dX p hp) rfl ?_
 conv=>whnf
 refine⟨fun h1=>?_,fun h1=>?_⟩
 ·conv=>whnf
  exact au.int (by rw[h1]; rfl)
 ·conv=>whnf
  refine ah.pure (S.bY p k hp hk) rfl ?_
  conv=>whnf
  exact au.int (by rw[h1]; rfl)
theorem zU{l:List Clause}{i:Nat}(hi:i<l.length):bF (l.take (i+1))=max (bF (l.take i)) (kK (l.getD i default)):=by
 unfold bF
 rw[List.take_add_one,List.foldl_append]; simp[hi]
theorem S.mJ(l:List Clause)(f:Bool)(hl:SmallK l):ak Tryz.prog 50 [.row 4 f (.clauses l)] (.int (bF l)):=by
 have k1:=hl.len
 refine ak.of Bd.mJ (by simp) rfl rfl ?_
 conv=>whnf
 refine aJ.same [7,8] (fun i:Nat=>[(9,.int i),(3,.int (bF (l.take i)))]) (fun i=>i<=l.length) (fun i=>l.length-i) 0 rfl (by decide) rfl (fun _=>rfl) (Nat.zero_le _) ⟨⟨_,rfl,rfl⟩,⟨_,rfl,rfl⟩,trivial⟩ ?_
 conv=>whnf
 refine⟨rfl,?_⟩
 rintro i hi
 have k2:=hl.cl i
 have k3:=k2.each; have k4:=k2.some
 conv=>whnf
 refine⟨fun h3=>?_,fun h3=>?_⟩
 ·have hi':i<l.length:=by simpa using h3
  conv=>whnf
  refine .mk (by simp only[Rw.rng] at *; first|omega|(simp_all; done)|(simp_all; omega)) ?_
  conv=>whnf
  refine⟨fun h4=>?_,fun h4=>?_⟩
  ·have h4':0<(l.getD i default).some.length:=by have:=of_decide_eq_true h4; simp only[Int.toNat_natCast] at this; omega
   conv=>whnf
   repeat(refine VC.mk (by simp only[okI] at *; first|omega|(simp_all; done)|(simp_all; omega)) ?_; conv=>whnf)
   refine⟨i+1,by omega,by omega,⟨⟨_,rfl,rfl⟩,⟨_,rfl,?_⟩,trivial⟩,?_,rfl⟩
   ·rw[zU hi',kK,if_pos h4']; rfl
   ·repeat' (first|exact trivial|exact⟨_,rfl,rfl⟩|constructor)
  ·have h4': ¬ 0<(l.getD i default).some.length:=by have:=of_decide_eq_false h4; simp only[Int.toNat_natCast] at this; omega
   conv=>whnf
   refine .mk (by simp only[okI] at *; first|omega|(simp_all; done)|(simp_all; omega)) ?_
   conv=>whnf
   refine⟨i+1,by omega,by omega,⟨⟨_,rfl,rfl⟩,⟨_,rfl,?_⟩,trivial⟩,?_,rfl⟩
   ·rw[zU hi',kK,if_neg h4',Int.add_zero]; rfl
   ·repeat' (first|exact trivial|exact⟨_,rfl,rfl⟩|constructor)
 ·have hi':l.length<=i:=by simpa using h3
  rw[List.take_of_length_le hi']
  conv=>whnf
  exact au.int rfl
theorem S.wB(l:List Clause)(f:Bool)(hl:SmallK l):ak Tryz.prog 57 [.row 4 f (.clauses l)] (.int (bF l)):=by
 have k1:=hl.len
 refine ak.of Bd.wB (by simp) rfl rfl ?_
 conv=>whnf
 refine aJ.same [0] (fun i:Nat=>[(4,.int i),(3,.int (bF (l.take i)))]) (fun i=>i<=l.length) (fun i=>l.length-i) 0 rfl (by decide) rfl (fun _=>rfl) (Nat.zero_le _) ⟨⟨_,rfl,rfl⟩,⟨_,rfl,rfl⟩,trivial⟩ ?_
 conv=>whnf
 refine⟨rfl,?_⟩
 rintro i hi
 have k2:=hl.cl i
 have k3:=k2.each; have k4:=k2.some
 conv=>whnf
 refine⟨fun h3=>?_,fun h3=>?_⟩
 ·have hi':i<l.length:=by simpa using h3
  conv=>whnf
  repeat(refine VC.mk (by simp only[Rw.rng] at *; first|omega|(simp_all; done)|(simp_all; omega)) ?_; conv=>whnf)
  refine⟨fun h4=>?_,fun h4=>?_⟩
  ·have h4':0<(l.getD i default).some.length:=by have:=of_decide_eq_true h4; simp only[Int.toNat_natCast] at this; omega
   conv=>whnf
   repeat(refine VC.mk (by simp only[okI] at *; first|omega|(simp_all; done)|(simp_all; omega)) ?_; conv=>whnf)
   refine⟨i+1,by omega,by omega,⟨⟨_,rfl,rfl⟩,⟨_,rfl,?_⟩,trivial⟩,?_,rfl⟩
   ·rw[zU hi',kK,if_pos h4']; rfl
   ·repeat' (first|exact trivial|exact⟨_,rfl,rfl⟩|constructor)
  ·have h4': ¬ 0<(l.getD i default).some.length:=by have:=of_decide_eq_false h4; simp only[Int.toNat_natCast] at this; omega
   conv=>whnf
   refine .mk (by simp only[okI] at *; first|omega|(simp_all; done)|(simp_all; omega)) ?_
   conv=>whnf
   refine⟨i+1,by omega,by omega,⟨⟨_,rfl,rfl⟩,⟨_,rfl,?_⟩,trivial⟩,?_,rfl⟩
   ·rw[zU hi',kK,if_neg h4',Int.add_zero]; rfl
   ·repeat' (first|exact trivial|exact⟨_,rfl,rfl⟩|constructor)
 ·have hi':l.length<=i:=by simpa using h3
  rw[List.take_of_length_le hi']
  conv=>whnf
  exact au.int rfl
def AP(p:aU)(l a:List Clause):Int:=bif jg p l !=0 then jg p l else jg p a
theorem Pv{p:aU}{l:List Clause}{k:Clause}(h1:decide ((l.length:Int)>160)=false)(h:aQ (l.map (uX p))=uX p k):jg p l=uX p k:=by
 rw[jg,h1,h]; rfl
theorem S.rE(p:aU)(l:List Clause)(g f:Bool)(hp:dh p)(hl:SmallK l):ak Tryz.prog 28 [.dat (.dF p),.yF 0 g [.row 4 f (.clauses l)]] (.int (jg p l)):=by
 have k1:=hl.len
 refine ak.of Bd.iY (by simp) rfl rfl ?_
 conv=>whnf
 refine aJ.times 2 rfl ?_
 conv=>whnf
 refine Fork.mk (fun _=>?_) (fun q=>absurd (q.symm.trans (rfl)) Bool.false_ne_true)
 conv=>whnf
 refine .mk (by omega) ?_
 conv=>whnf
 refine⟨fun ha1=>?_,fun ha1=>?_⟩
 ·conv=>whnf
  exact au.int (by rw[jg,ha1]; rfl)
 conv=>whnf
 refine aJ.same [1,2,10,11,12,19,20] (fun i:Nat=>[(21,.int i)]) (fun i=>i<=l.length/\aQ (l.map (uX p))=aQ ((l.drop i).map (uX p))) (fun i=>l.length-i) 0 rfl (by decide) rfl (fun _=>rfl) ⟨by omega,by simp⟩ ⟨⟨_,rfl,rfl⟩,trivial⟩ ?_
 conv=>whnf
 refine⟨rfl,?_⟩
 rintro i ⟨hia,hfa⟩
 conv=>whnf
 refine⟨fun ha3=>?_,fun ha3=>?_⟩
 ·have hi':i<l.length:=by simpa using ha3
  rw[CW hi'] at hfa
  conv=>whnf
  refine .mk (by simp only[Rw.rng] at *; omega) ?_
  conv=>whnf
  refine ah.pure (S.bY p (l.getD i default) hp (hl.cl i)) rfl ?_
  conv=>whnf
  refine⟨fun h4=>?_,fun h4=>?_⟩
  ·conv=>whnf
   rw[show(uX p (l.getD i default) !=0)=true from h4] at hfa
   refine au.int ?_
   exact(Pv ha1 hfa).symm▸rfl
  ·conv=>whnf
   refine .mk (by simp only[okI] at *; omega) ?_
   conv=>whnf
   rw[show(uX p (l.getD i default) !=0)=false from h4] at hfa
   refine⟨i+1,⟨by omega,hfa⟩,by omega,⟨⟨_,rfl,rfl⟩,trivial⟩,?_,rfl⟩
   repeat' (first|exact trivial|exact⟨_,rfl,rfl⟩|constructor)
 have aaB:l.length<=i:=by simpa using ha3
 rw[List.drop_eq_nil_of_le aaB] at hfa
 have hza:jg p l=0:=by rw[jg,ha1,hfa]; rfl
 conv=>whnf
 refine .mk (by simp only[okI] at *; omega) ?_
 conv=>whnf
 refine Fork.mk (fun q=>absurd (q.symm.trans (rfl)).symm Bool.false_ne_true) (fun _=>?_)
 conv=>whnf
 exact au.int (by rw[hza])
theorem S.IX(p:aU)(l a:List Clause)(g f f':Bool)(hp:dh p)(hl:SmallK l)(ha:SmallK a):ak Tryz.prog 28 [.dat (.dF p),.yF 0 g [.row 4 f (.clauses l),.row 4 f' (.clauses a)]] (.int (AP p l a)):=by
 have k1:=hl.len
 have k2:=ha.len
 refine ak.of Bd.iY (by simp) rfl rfl ?_
 conv=>whnf
 refine aJ.times 3 rfl ?_
 conv=>whnf
 refine Fork.mk (fun _=>?_) (fun q=>absurd (q.symm.trans (rfl)) Bool.false_ne_true)
 conv=>whnf
 refine .mk (by omega) ?_
 conv=>whnf
 refine⟨fun ha1=>?_,fun ha1=>?_⟩
 ·conv=>whnf
  exact au.int (by rw[AP,jg,ha1]; rfl)
 conv=>whnf
 refine aJ.same [1,2,10,11,12,19,20] (fun i:Nat=>[(21,.int i)]) (fun i=>i<=l.length/\aQ (l.map (uX p))=aQ ((l.drop i).map (uX p))) (fun i=>l.length-i) 0 rfl (by decide) rfl (fun _=>rfl) ⟨by omega,by simp⟩ ⟨⟨_,rfl,rfl⟩,trivial⟩ ?_
 conv=>whnf
 refine⟨rfl,?_⟩
 rintro i ⟨hia,hfa⟩
 conv=>whnf
 refine⟨fun ha3=>?_,fun ha3=>?_⟩
 ·have hi':i<l.length:=by simpa using ha3
  rw[CW hi'] at hfa
  conv=>whnf
  refine .mk (by simp only[Rw.rng] at *; omega) ?_
  conv=>whnf
  refine ah.pure (S.bY p (l.getD i default) hp (hl.cl i)) rfl ?_
  conv=>whnf
  refine⟨fun h4=>?_,fun h4=>?_⟩
  ·conv=>whnf
   rw[show(uX p (l.getD i default) !=0)=true from h4] at hfa
   refine au.int ?_
   rw[AP,Pv ha1 hfa,show(uX p (l.getD i default) !=0)=true from h4]; rfl
  ·conv=>whnf
   refine .mk (by simp only[okI] at *; omega) ?_
   conv=>whnf
   rw[show(uX p (l.getD i default) !=0)=false from h4] at hfa
   refine⟨i+1,⟨by omega,hfa⟩,by omega,⟨⟨_,rfl,rfl⟩,trivial⟩,?_,rfl⟩
   repeat' (first|exact trivial|exact⟨_,rfl,rfl⟩|constructor)
 have aaB:l.length<=i:=by simpa using ha3
 rw[List.drop_eq_nil_of_le aaB] at hfa
 have hza:jg p l=0:=by rw[jg,ha1,hfa]; rfl
 conv=>whnf
 refine .mk (by simp only[okI] at *; omega) ?_
 conv=>whnf
 refine Fork.mk (fun _=>?_) (fun q=>absurd (q.symm.trans (rfl)) Bool.false_ne_true)
 conv=>whnf
 refine .mk (by omega) ?_
 conv=>whnf
 refine⟨fun hb1=>?_,fun hb1=>?_⟩
 ·conv=>whnf
  exact au.int (by rw[AP,hza,jg,hb1]; rfl)
 conv=>whnf
 refine aJ.same [1,2,10,11,12,19,20] (fun i:Nat=>[(21,.int i)]) (fun i=>i<=a.length/\aQ (a.map (uX p))=aQ ((a.drop i).map (uX p))) (fun i=>a.length-i) 0 rfl (by decide) rfl (fun _=>rfl) ⟨by omega,by simp⟩ ⟨⟨_,rfl,rfl⟩,trivial⟩ ?_
 conv=>whnf
 refine⟨rfl,?_⟩
 rintro j ⟨hib,hfb⟩
 conv=>whnf
 refine⟨fun hb3=>?_,fun hb3=>?_⟩
 ·have hi':j<a.length:=by simpa using hb3
  rw[CW hi'] at hfb
  conv=>whnf
  refine .mk (by simp only[Rw.rng] at *; omega) ?_
  conv=>whnf
  refine ah.pure (S.bY p (a.getD j default) hp (ha.cl j)) rfl ?_
  conv=>whnf
  refine⟨fun h4=>?_,fun h4=>?_⟩
  ·conv=>whnf
   rw[show(uX p (a.getD j default) !=0)=true from h4] at hfb
   refine au.int ?_
   rw[AP,hza]; exact(Pv hb1 hfb).symm▸rfl
  ·conv=>whnf
   refine .mk (by simp only[okI] at *; omega) ?_
   conv=>whnf
   rw[show(uX p (a.getD j default) !=0)=false from h4] at hfb
   refine⟨j+1,⟨by omega,hfb⟩,by omega,⟨⟨_,rfl,rfl⟩,trivial⟩,?_,rfl⟩
   repeat' (first|exact trivial|exact⟨_,rfl,rfl⟩|constructor)
 have adl:a.length<=j:=by simpa using hb3
 rw[List.drop_eq_nil_of_le adl] at hfb
 have hzb:jg p a=0:=by rw[jg,hb1,hfb]; rfl
 conv=>whnf
 refine .mk (by simp only[okI] at *; omega) ?_
 conv=>whnf
 refine Fork.mk (fun q=>absurd (q.symm.trans (rfl)).symm Bool.false_ne_true) (fun _=>?_)
 conv=>whnf
 exact au.int (by rw[AP,hza,hzb]; rfl)
def fA(l:List Clause)(e:Elem):Nat:=l.findIdx fun k=> !holdsB k e
def cO(l:List Clause)(e:Elem):Bool:=l.all fun k=>holdsB k e
theorem Px{α:Type}{l:List α}{p q:α->Bool}:l.findIdx (fun x=>p x||q x)=min (l.findIdx p) (l.findIdx q):=by
 induction l with
 |nil=>rfl
 |cons x r ih =>
  rw[List.findIdx_cons,List.findIdx_cons,List.findIdx_cons]
  cases p x<;>cases q x<;>simp only[Bool.or_true,Bool.or_false,cond_true,cond_false]<;>omega
theorem Py{α:Type}{l:List α}:l.findIdx (fun _=>false)=l.length:=by
 induction l with
 |nil=>rfl
 |cons x r ih=>rw[List.findIdx_cons,ih]; rfl
def Bv(l:List Clause)(es:List Elem):Nat:=es.foldl (fun m e=>min m (fA l e)) l.length
def Bz(l:List Clause)(es:List Elem):Nat:=l.findIdx fun k=>es.any fun e=> !holdsB k e
theorem VG{l:List Clause}{es:List Elem}:Bv l es=Bz l es:=by
 have: ∀ (es:List Elem) (m:Nat),m<=l.length->es.foldl (fun m e=>min m (fA l e)) m=min m (Bz l es):=by
  intro es
  induction es with
  |nil=>intro m hm; show m=min m (l.findIdx fun _=>false); rw[Py]; omega
  |cons e es ih =>
   intro m hm
   rw[List.foldl_cons,ih _ (by omega)]
   have:Bz l (e::es)=min (fA l e) (Bz l es):=Px
   rw[this]; omega
 rw[Bv,this es _ (Nat.le_refl _)]
 have:Bz l es<=l.length:=List.findIdx_le_length
 omega
theorem VH{l:List Clause}{es:List Elem}:Bz l es<=l.length:=List.findIdx_le_length
theorem SV{l:List Clause}{es:List Elem}{i:Nat}(hi:i<es.length):Bv l (es.take (i+1))=min (Bv l (es.take i)) (fA l (es.getD i default)):=by
 unfold Bv
 rw[List.take_add_one,List.foldl_append]; simp[hi]
def orM(n m:Nat):Int:=bif m==n then -1 else m
def stepG(fire:Elem->Option Elem)(l a:List Clause)(s:Nat×Elem)(e:Elem):Nat×Elem :=
 match fire e with
 |none=>s
 |some x=>bif cO l e&&cO a e&&(decide (fA l x<l.length)&&(decide (fA l x<s.1)||fA l x==s.1&&decide (nD e<nD s.2))) then(fA l x,e) else s
def JD(fire:Elem->Option Elem)(l a:List Clause)(es:List Elem):Nat×Elem:=es.foldl (stepG fire l a) (l.length,⟨0,[]⟩)
theorem GU{α β:Type}{f:β->α->β}{b:β}{es:List α}{i:Nat}{d:α}(hi:i<es.length):(es.take (i+1)).foldl f b=f ((es.take i).foldl f b) (es.getD i d):=by
 rw[List.take_add_one,List.foldl_append]; simp[hi]
theorem VI{fire:Elem->Option Elem}{l a:List Clause}{s:Nat×Elem}{e:Elem}(h:s.1<=l.length):(stepG fire l a s e).1<=l.length:=by
 unfold stepG
 split
 ·exact h
 ·cases hc:(cO l e&&cO a e&&(decide (fA l _<l.length)&&(decide (fA l _<s.1)||fA l _==s.1&&decide (nD e<nD s.2)))) with
  |false=>exact h
  |true=>exact List.findIdx_le_length
theorem MV{fire:Elem->Option Elem}{l a:List Clause}{es:List Elem}:(JD fire l a es).1<=l.length:=by
 have: ∀ (es:List Elem) (s:Nat×Elem),s.1<=l.length->(es.foldl (stepG fire l a) s).1<=l.length:=by
  intro es
  induction es with
  |nil=>intro s h; exact h
  |cons e es ih=>intro s h; exact ih _ (VI h)
 exact this es _ (Nat.le_refl _)
def Aq(bad:Elem->Bool)(l:List Clause)(s:Option Elem)(e:Elem):Option Elem :=
 bif bad e&&(cO l e&&(s.isNone||decide (nD e<nD (s.getD ⟨0,[]⟩)))) then some e else s
def Yz(bad:Elem->Bool)(l:List Clause)(es:List Elem):Option Elem:=es.foldl (Aq bad l) none
theorem VJ{bad:Elem->Bool}{l:List Clause}{es:List Elem}{x:Elem}(h:Yz bad l es=some x):x∈es:=by
 have: ∀ (es:List Elem) (s:Option Elem) (x:Elem),es.foldl (Aq bad l) s=some x->s=some x\/x∈es:=by
  intro es
  induction es with
  |nil=>intro s x h; exact .inl h
  |cons e es ih =>
   intro s x h
   rw[List.foldl_cons] at h
   rcases ih _ x h with h|h
   ·unfold Aq at h
    cases hc:(bad e&&(cO l e&&(s.isNone||decide (nD e<nD (s.getD ⟨0,[]⟩))))) with
    |false=>rw[hc] at h; exact .inl h
    |true=>rw[hc] at h; cases h; exact .inr (by simp)
   ·exact .inr (List.mem_cons_of_mem _ h)
 rcases this es none x h with h|h
 ·cases h
 ·exact h
theorem SX{l a:List Clause}{e:Elem}:cO (l++a) e=(cO l e&&cO a e):=by simp[cO]
theorem pJ{l:List Clause}{e:Elem}:(fH l e).length=l.length:=by simp[fH]
theorem MW{l a:List Clause}{e:Elem}:(fH (l++a) e).take l.length=fH l e:=by
 simp[fH]
theorem QZ{l:List Clause}{e:Elem}:(fH l e).all id=cO l e:=by
 simp[fH,cO,List.all_map,Function.comp_def]
theorem SY{l:List Clause}{e:Elem}:(fH l e).findIdx (fun b=> !b)=fA l e:=by
 unfold fH fA
 induction l with
 |nil=>rfl
 |cons k l ih=>rw[List.map_cons,List.findIdx_cons,List.findIdx_cons,ih]
theorem GV{l a:List Clause}:bF (l++a)=max (bF l) (bF a):=by
 have: ∀ (l:List Clause) (r:Int),0<=r->l.foldl (fun r k=>max r (kK k)) r=max r (bF l):=by
  intro l
  induction l with
  |nil=>intro r hr; show r=max r 0; omega
  |cons x l ih =>
   intro r hr
   have h0:0<=kK x:=by unfold kK; split<;>omega
   show l.foldl _ (max r (kK x))=max r (l.foldl _ (max 0 (kK x)))
   rw[ih _ (by omega),ih (max 0 (kK x)) (by omega)]; omega
 show(l++a).foldl _ 0=_
 rw[List.foldl_append]; exact this a (bF l) nC
theorem S.Eh(l:List Int)(s:Int)(f:Bool)(hl:l.length<2^40):ak Tryz.prog 75 [.row 0 f (.ints l),.int s] (.bool (O9 l s)):=by
 refine ak.of Bd.Eh (by simp) rfl rfl ?_
 conv=>whnf
 refine aJ.same [0,1] (fun i:Nat=>[(5,.int i)]) (fun i=>i<=l.length/\(l.take i).any (fun x=>s==x)=false) (fun i=>l.length-i) 0 rfl (by decide) rfl (fun _=>rfl) ⟨by omega,by simp⟩ ⟨⟨_,rfl,rfl⟩,trivial⟩ ?_
 conv=>whnf
 refine⟨rfl,?_⟩
 rintro i ⟨hi,hall⟩
 conv=>whnf
 refine⟨fun h3=>?_,fun h3=>?_⟩
 ·have hi':i<l.length:=by simpa using h3
  conv=>whnf
  refine .mk (by simp only[Rw.rng] at *; first|omega|(simp_all; done)|(simp_all; omega)) ?_
  conv=>whnf
  refine⟨fun h4=>?_,fun h4=>?_⟩
  ·have h4':(s==l.getD i 0)=true:=by rw[show(s==l.getD i 0)=(l.getD i 0==s) from Bool.beq_comm]; exact h4
   conv=>whnf
   exact au.bool (jq (d:=0) hi' h4')
  ·have h4':(s==l.getD i 0)=false:=by rw[show(s==l.getD i 0)=(l.getD i 0==s) from Bool.beq_comm]; exact h4
   conv=>whnf
   refine .mk (by simp only[okI] at *; first|omega|(simp_all; done)|(simp_all; omega)) ?_
   conv=>whnf
   refine⟨i+1,⟨by omega,?_⟩,by omega,⟨⟨_,rfl,rfl⟩,trivial⟩,?_,rfl⟩
   ·rw[lJ (d:=0) hi' hall]; exact h4'
   ·repeat' (first|exact trivial|exact⟨_,rfl,rfl⟩|constructor)
 ·have hi':l.length<=i:=by simpa using h3
  rw[List.take_of_length_le hi'] at hall
  conv=>whnf
  exact au.bool hall
theorem Pz{l c:List Int}{i:Nat}(hi:i<l.length):qO (l.take (i+1)) c=qO (l.take i) c+c.getD (l.getD i 0).toNat 0:=by
 unfold qO
 rw[List.take_add_one,List.map_append,List.sum_append]; simp[hi]
theorem getM{α:Type}{l:List α}{i:Nat}{d:α}(hi:i<l.length):l.getD i d∈l:=by
 rw[show l.getD i d=l[i] by simp[hi]]; exact List.getElem_mem hi
theorem Bl.g{c:List Int}(h:Bl c)(i:Nat):0<=c.getD i 0/\c.getD i 0<=1048576:=by
 by_cases hi:i<c.length
 ·exact h.get hi
 ·rw[show c.getD i 0=0 by simp[List.getD_eq_getElem?_getD,List.getElem?_eq_none (by omega:c.length<=i)]]; omega
theorem VK{l c:List Int}(h:Bl c):0<=qO l c/\qO l c<=1048576*l.length:=by
 unfold qO
 induction l with
 |nil=>simp
 |cons x r ih =>
  have:=h.g x.toNat
  simp only[List.map_cons,List.sum_cons,List.length_cons]; omega
theorem VL(l:List Int)(x:Int):0<=xG l x/\xG l x<=1:=by
 unfold xG; cases l.any fun y=>x==y<;>simp
theorem S.CX(c l:List Int)(f g:Bool)(hc:Bl c)(_hn:c.length<2^30)(hl:l.length<2^30)(hp:qL c.length l):ak Tryz.prog 76 [.row 0 f (.ints c),.row 0 g (.ints l)] (.int (qO l c)):=by
 refine ak.of Bd.CX (by simp) rfl rfl ?_
 conv=>whnf
 refine aJ.same [0,1] (fun i:Nat=>[(6,.int i),(5,.int (qO (l.take i) c))]) (fun i=>i<=l.length) (fun i=>l.length-i) 0 rfl (by decide) rfl (fun _=>rfl) (Nat.zero_le _) ⟨⟨_,rfl,rfl⟩,⟨_,rfl,rfl⟩,trivial⟩ ?_
 conv=>whnf
 refine⟨rfl,?_⟩
 rintro i hi
 have hb:=VK (l:=l.take i) hc
 have hll:(l.take i).length<=l.length:=by rw[List.length_take]; omega
 conv=>whnf
 refine⟨fun h3=>?_,fun h3=>?_⟩
 ·have hi':i<l.length:=by simpa using h3
  have hs:=Pz (c:=c) hi'
  have hg:=hc.g (l.getD i 0).toNat
  obtain⟨p1,p2⟩:=hp _ (getM (d:=0) hi')
  conv=>whnf
  repeat(refine VC.mk (by first|(simp only[Rw.rng,Int.toNat_natCast]; omega)|(simp only[okI,Int.toNat_natCast] at *; omega)) ?_; conv=>whnf)
  refine⟨i+1,by omega,by omega,⟨⟨_,rfl,rfl⟩,⟨_,rfl,?_⟩,trivial⟩,?_,rfl⟩
  ·rw[hs]; rfl
  ·repeat' (first|exact trivial|exact⟨_,rfl,rfl⟩|constructor)
 ·have hi':l.length<=i:=by simpa using h3
  rw[List.take_of_length_le hi']
  conv=>whnf
  exact au.int rfl
theorem S.xK(l:List Int)(s:Int)(f:Bool)(hl:l.length<2^40):ak Tryz.prog 77 [.row 0 f (.ints l),.int s] (.int (xG l s)):=by
 refine ak.of Bd.xK (by simp) rfl rfl ?_
 conv=>whnf
 refine ah.pure (S.Eh l s f hl) rfl ?_
 conv=>whnf
 refine⟨fun h1=>?_,fun h1=>?_⟩
 ·conv=>whnf
  exact au.int (by rw[xG,show(l.any fun y=>s==y)=true from h1]; rfl)
 ·conv=>whnf
  exact au.int (by rw[xG,show(l.any fun y=>s==y)=false from h1]; rfl)
structure S9(k:Clause)(e:Elem):Prop where
 cl: ∃ vals,yG e.counts.length vals k
 ok:Bl e.counts
 len:e.counts.length<=6
theorem EY.len{n:Nat}: ∀ {l:List Int},EY n l->l.length<=n:=by
 intro l h
 have: ∀ (l:List Int) (b:Int),(∀ x∈l,b<=x/\x<n)->l.Pairwise (· < ·)->(l.length:Int)<=n-b\/l=[]:=by
  intro l
  induction l with
  |nil=>intro b _ _; exact .inr rfl
  |cons x r ih =>
   intro b hb hp
   have h1:=hb x (by simp)
   rw[List.pairwise_cons] at hp
   rcases ih (x+1) (fun y hy=>⟨by have:=hp.1 y hy; omega,(hb y (List.mem_cons_of_mem _ hy)).2⟩) hp.2 with h2|h2
   ·left; rw[List.length_cons]; omega
   ·left; subst h2; simp only[List.length_cons,List.length_nil]; omega
 rcases this l 0 h.1 h.2 with h2|h2
 ·omega
 ·subst h2; simp
theorem EY.place{n:Nat}{l:List Int}(h:EY n l):qL n l:=h.1
theorem S.tu(k:Clause)(e:Elem)(h:S9 k e)(hk:k.values.length<2^30):ak Tryz.prog 58 [.dat (.clause k),.dat (.elem e)] (.bool (KF k e)):=by
 obtain⟨⟨vals,hcl⟩,hok,hln⟩:=h
 have hS:=hcl.some.len
 have hb:=VK (l:=k.some) hok
 have h2:=hcl.two
 refine ak.of Bd.tu (by simp) rfl rfl ?_
 conv=>whnf
 repeat(refine VC.mk (by first|exact id|exact fun h=>⟨h,h⟩) ?_; conv=>whnf)
 refine ah.fP (fun _=>S.Eh k.values e.value false (by omega)) rfl ?_
 conv=>whnf
 repeat(refine VC.mk id ?_; conv=>whnf)
 refine⟨fun h1=>?_,fun h1=>?_⟩
 ·conv=>whnf
  exact au.bool (by rw[KF,show Jt k e.value=true from h1]; rfl)
 have hfree:Jt k e.value=false:=h1
 conv=>whnf
 refine ah.pure (S.CX e.counts k.some false false hok (by omega) (by omega) hcl.some.place) rfl ?_
 conv=>whnf
 refine⟨fun h3=>?_,fun h3=>?_⟩
 ·conv=>whnf
  exact au.bool (by rw[KF,hfree,show((k.each.length:Int)==0)=true from h3]; rfl)
 have hne:0<k.each.length:=by
  have:(k.each.length:Int)≠0:=by simpa using h3
  omega
 have e0:k.each.getD 0 []∈k.each:=getM hne
 have hset:=(hcl.each _ e0).1
 have hl0:=hset.len
 have href:KF k e=(k.each.getD 0 []).all (yw k e.counts):=by rw[KF,hfree,show((k.each.length:Int)==0)=false from h3]; rfl
 conv=>whnf
 refine aJ.same [2,3,5] (fun i:Nat=>[(6,.int i)]) (fun i=>i<=(k.each.getD 0 []).length/\((k.each.getD 0 []).take i).all (yw k e.counts)=true) (fun i=>(k.each.getD 0 []).length-i) 0 rfl (by decide) rfl (fun _=>rfl) ⟨by omega,by simp⟩ ⟨⟨_,rfl,rfl⟩,trivial⟩ ?_
 conv=>whnf
 refine⟨rfl,?_⟩
 rintro i ⟨hi,hall⟩
 conv=>whnf
 refine .mk (by simp only[Rw.rng]; omega) ?_
 conv=>whnf
 refine⟨fun h4=>?_,fun h4=>?_⟩
 ·have hi':i<(k.each.getD 0 []).length:=by simpa using h4
  obtain⟨p1,p2⟩:=hset.1 _ (getM (d:=0) hi')
  have ho:=VL k.some ((k.each.getD 0 []).getD i 0)
  have hnext:=nG (d:=0) hi' hall
  have Q5:=fun h=>mM (p:=yw k e.counts) (d:=0) hi' h
  conv=>whnf
  repeat(refine VC.mk (by first|(first|(simp only[Rw.rng,Int.toNat_natCast]; omega)|(simp only[Rw.rng]; omega))|(simp only[Rw.rng] at *; first|omega|(simp_all; done)|(simp_all; omega))) ?_; conv=>whnf)
  refine⟨fun h5=>?_,fun h5=>?_⟩
  ·have hz:(e.counts.getD ((k.each.getD 0 []).getD i 0).toNat 0==0)=true:=h5
   conv=>whnf
   refine .mk (by simp only[okI] at *; first|omega|(simp_all; done)|(simp_all; omega)) ?_
   conv=>whnf
   refine⟨i+1,⟨by omega,?_⟩,by omega,⟨⟨_,rfl,rfl⟩,trivial⟩,?_,rfl⟩
   ·rw[hnext,yw,hz]; rfl
   ·repeat' (first|exact trivial|exact⟨_,rfl,rfl⟩|constructor)
  have hz:(e.counts.getD ((k.each.getD 0 []).getD i 0).toNat 0==0)=false:=h5
  conv=>whnf
  repeat(refine VC.mk (by first|exact id|exact fun h=>⟨h,h⟩) ?_; conv=>whnf)
  refine ah.fP (fun _=>S.xK k.some ((k.each.getD 0 []).getD i 0) false (by omega)) rfl ?_
  conv=>whnf
  repeat(refine VC.mk (by first|exact id|(intro h; (repeat' apply And.intro)<;>first|exact h|omega|(simp only[Rw.lg]; omega)|(simp only[Rw.rng]; omega))) ?_; conv=>whnf)
  conv=>whnf
  refine⟨fun h6=>?_,fun h6=>?_⟩
  ·have h6':((k.each.length:Int)==1&&KE k e.counts ((k.each.getD 0 []).getD i 0))=true:=h6
   conv=>whnf
   exact au.bool (by rw[href]; exact Q5 (by rw[yw,hz,h6']; rfl))
  have h6':((k.each.length:Int)==1&&KE k e.counts ((k.each.getD 0 []).getD i 0))=false:=h6
  conv=>whnf
  refine aJ.same [2,3,5,6,7] (fun j:Nat=>[(8,.int j)]) (fun j=>j<=(k.each.getD 1 []).length/\((k.each.getD 1 []).take j).any (Ed k e.counts ((k.each.getD 0 []).getD i 0))=false) (fun j=>(k.each.getD 1 []).length-j) 0 rfl (by decide) rfl (fun _=>rfl) ⟨by omega,by simp⟩ ⟨⟨_,rfl,rfl⟩,trivial⟩ ?_
  conv=>whnf
  refine⟨rfl,?_⟩
  rintro j ⟨hj,hany⟩
  conv=>whnf
  repeat(refine VC.mk (by first|exact id|exact fun h=>⟨h,h⟩|(simp only[Rw.rng] at *; first|omega|(simp_all; done)|(simp_all; omega))) ?_; conv=>whnf)
  refine⟨fun h7=>?_,fun h7=>?_⟩
  ·have Yc:(decide ((k.each.length:Int)>1)&&decide ((j:Int)<(k.each.getD 1 []).length))=true:=h7
   rw[Bool.and_eq_true,decide_eq_true_eq,decide_eq_true_eq] at Yc
   obtain⟨g1,g2⟩:=Yc
   have hj':j<(k.each.getD 1 []).length:=by omega
   have e1:k.each.getD 1 []∈k.each:=getM (by omega)
   obtain⟨p3,p4⟩:=(hcl.each _ e1).1.1 _ (getM (d:=0) hj')
   have hn2:=lJ (d:=0) hj' hany
   have hl1:=(hcl.each _ e1).1.len
   have ho2:=VL k.some ((k.each.getD 1 []).getD j 0)
   conv=>whnf
   repeat(refine VC.mk (by first|(first|(simp only[Rw.rng,Int.toNat_natCast]; omega)|(simp only[Rw.rng]; omega))|exact fun h=>h|exact fun h=>⟨h,h⟩|(intro h; rw[h]; rfl)|(simp only[Rw.rng] at *; first|omega|(simp_all; done)|(simp_all; omega))) ?_; conv=>whnf)
   refine ah.fP (fun _=>S.xK k.some ((k.each.getD 0 []).getD i 0) false (by omega)) rfl ?_
   conv=>whnf
   repeat(refine VC.mk (by first|exact fun h=>⟨h,h⟩|(intro h; (repeat' apply And.intro)<;>first|exact h|omega|(simp only[Rw.lg]; omega)|(simp only[Rw.rng]; omega))) ?_; conv=>whnf)
   conv=>whnf
   refine ah.fP (fun _=>S.xK k.some ((k.each.getD 1 []).getD j 0) false (by omega)) rfl ?_
   conv=>whnf
   repeat(refine VC.mk (by first|exact id|(intro h; (repeat' apply And.intro)<;>first|exact h|omega|(simp only[Rw.lg]; omega)|(simp only[Rw.rng]; omega))) ?_; conv=>whnf)
   conv=>whnf
   refine⟨fun h8=>?_,fun h8=>?_⟩
   ·have h8':Ed k e.counts ((k.each.getD 0 []).getD i 0) ((k.each.getD 1 []).getD j 0)=true:=h8
    conv=>whnf
    refine au.bool ?_
    rw[href]
    refine Q5 ?_
    rw[yw,hz,h6',jq (d:=0) hj' h8',decide_eq_true g1]; rfl
   ·have h8':Ed k e.counts ((k.each.getD 0 []).getD i 0) ((k.each.getD 1 []).getD j 0)=false:=h8
    conv=>whnf
    refine .mk (by simp only[okI] at *; first|omega|(simp_all; done)|(simp_all; omega)) ?_
    conv=>whnf
    refine⟨j+1,⟨by omega,?_⟩,by omega,⟨⟨_,rfl,rfl⟩,trivial⟩,?_,rfl⟩
    ·rw[hn2]; exact h8'
    ·repeat' (first|exact trivial|exact⟨_,rfl,rfl⟩|constructor)
  ·have Yc:(decide ((k.each.length:Int)>1)&&decide ((j:Int)<(k.each.getD 1 []).length))=false:=h7
   have hno:(decide ((k.each.length:Int)>1)&&(k.each.getD 1 []).any (Ed k e.counts ((k.each.getD 0 []).getD i 0)))=false:=by
    cases hd:decide ((k.each.length:Int)>1) with
    |false=>rfl
    |true =>
     rw[hd,Bool.true_and,decide_eq_false_iff_not] at Yc
     rw[List.take_of_length_le (by omega)] at hany
     rw[hany]; rfl
   conv=>whnf
   refine .mk (by simp only[okI] at *; first|omega|(simp_all; done)|(simp_all; omega)) ?_
   conv=>whnf
   refine⟨i+1,⟨by omega,?_⟩,by omega,⟨⟨_,rfl,rfl⟩,trivial⟩,?_,rfl⟩
   ·rw[hnext,yw,hz,h6',hno]; rfl
   ·repeat' (first|exact trivial|exact⟨_,rfl,rfl⟩|constructor)
 ·have hi':(k.each.getD 0 []).length<=i:=by simpa using h4
  rw[List.take_of_length_le hi'] at hall
  conv=>whnf
  exact au.bool (by rw[href,hall])
theorem S.wC(l:List Clause)(e:Elem)(f:Bool)(hl:l.length<2^30)(h: ∀ i,i<l.length->S9 (l.getD i default) e/\(l.getD i default).values.length<2^30):ak Tryz.prog 59 [.row 4 f (.clauses l),.dat (.elem e)] (.bool (cO l e)):=by
 refine ak.of Bd.wC (by simp) rfl rfl ?_
 conv=>whnf
 refine aJ.same [0,3] (fun i:Nat=>[(5,.int i)]) (fun i=>i<=l.length/\(l.take i).all (fun k=>holdsB k e)=true) (fun i=>l.length-i) 0 rfl (by decide) rfl (fun _=>rfl) ⟨by omega,by simp⟩ ⟨⟨_,rfl,rfl⟩,trivial⟩ ?_
 conv=>whnf
 refine⟨rfl,?_⟩
 rintro i ⟨hi,hall⟩
 conv=>whnf
 refine⟨fun h3=>?_,fun h3=>?_⟩
 ·have hi':i<l.length:=by simpa using h3
  obtain⟨hf,hv⟩:=h i hi'
  have href:KF (l.getD i default) e=holdsB (l.getD i default) e:=(hf.cl.elim fun _ c=>QV c fun x hx=>(hf.ok x hx).1)
  conv=>whnf
  refine .mk (by simp only[Rw.rng] at *; first|omega|(simp_all; done)|(simp_all; omega)) ?_
  conv=>whnf
  refine ah.pure (S.tu (l.getD i default) e hf hv) rfl ?_
  conv=>whnf
  rw[href]
  refine⟨fun h4=>?_,fun h4=>?_⟩
  ·conv=>whnf
   exact au.bool (mM (p:=fun k=>holdsB k e) (d:=default) hi' (by simpa using h4))
  ·conv=>whnf
   refine .mk (by simp only[okI] at *; first|omega|(simp_all; done)|(simp_all; omega)) ?_
   conv=>whnf
   refine⟨i+1,⟨by omega,?_⟩,by omega,⟨⟨_,rfl,rfl⟩,trivial⟩,?_,rfl⟩
   ·rw[nG (d:=default) hi' hall]; simpa using h4
   ·repeat' (first|exact trivial|exact⟨_,rfl,rfl⟩|constructor)
 ·have hi':l.length<=i:=by simpa using h3
  rw[List.take_of_length_le hi'] at hall
  conv=>whnf
  exact au.bool hall
def pK(starts:List Int)(e:Elem):Bool:= !(Yt e.counts starts)&&(e.value==0)
abbrev oJ(l:List (List Int)):OV:=.row 24 0 (.kZ l) []
theorem Tc(l:List (List Int)):T.dH (l.map Go.Ab.ints)=true:=by
 rw[ig]; intro t ht; obtain⟨x,_,rfl⟩:=List.mem_map.1 ht; rfl
theorem VN{h:Hz}{j:Nat}{Z:Nat->Prop}{l:List (List Int)}(hz:Z j)(q:h.get j=some (oJ l)):T.sub Z h.aj (V.row 0 false (.kZ l)).aG (V.own j).aG:=by
 show T.sub Z h.aj (.sl 0 false (l.map Go.Ab.ints)) (.own j)
 simp only[T.sub]
 refine⟨trivial,hz,Tc l,by decide,24,?_⟩
 have:=aH q; simpa [OV.aF,Rw.aT,V.aT] using this
theorem au.acf{h:Hz}{j:Nat}{l:List (List Int)}(q:h.get j=some (oJ l)):au (.row 0 false (.kZ l)) (.own j) h:=⟨VN trivial q⟩
theorem JE{Z:Nat->Prop}{h:Hz}{i j:Nat}{r:Rw}{l:List (List Int)}{c:List Int}(q:h.get i=some (.row 24 0 r [.own j]))(hr:r.aT=l.map Go.Ab.ints)(hi: ¬ Z i)(hz:Z j)(qj:h.get j=some (jZ c)) :
  ∃ o',h.get i=some o'/\ ¬ Z i/\o'.aF.ty=(oJ (l++[c])).aF.ty/\o'.aF.k=(oJ (l++[c])).aF.k/\T.dD Z h.aj (oJ (l++[c])).aF.l o'.aF.l/\(oJ (l++[c])).aF.l.map T.kd=o'.aF.l.map T.kd/\(oJ (l++[c])).aF.l.map fQ=o'.aF.l.map fQ:=by
 have e1:(oJ (l++[c])).aF.l=r.aT++[Go.Ab.ints c]:=by rw[hr]; simp[OV.aF,Rw.aT,V.aT]
 refine⟨_,q,hi,rfl,rfl,?_,?_,?_⟩
 ·rw[e1]
  exact yY (bZ _) ⟨Jo hz qj,trivial⟩
 ·rw[e1]; show _=List.map T.kd (r.aT++[.own j])
  rw[List.map_append,List.map_append]; rfl
 ·rw[e1]; show _=List.map fQ (r.aT++[.own j])
  rw[List.map_append,List.map_append]; rfl
abbrev nS(l:List Elem):OV:=.row 55 3 (.elems l) []
theorem ZY{h:Hz}{j:Nat}{l:List Elem}{Z:Nat->Prop}(hz:Z j)(q:h.get j=some (nS l)):T.sub Z h.aj (V.row 3 false (.elems l)).aG (V.own j).aG:=by
 show T.sub Z h.aj (.sl 3 false (l.map sQ)) (.own j)
 simp only[T.sub]
 refine⟨trivial,hz,BA l,by decide,55,?_⟩
 have:=aH q; simpa [OV.aF,Rw.aT,V.aT] using this
theorem au.acg{h:Hz}{j:Nat}{l:List Elem}(q:h.get j=some (nS l)):au (.row 3 false (.elems l)) (.own j) h:=⟨ZY trivial q⟩
theorem aaC{Z:Nat->Prop}{h:Hz}{j:Nat}{v:Int}{l:List Int}(hz:Z j)(q:h.get j=some (jZ l)):T.sub Z h.aj (sQ ⟨v,l⟩) (.agg [.int v,.own j]):=by
 have:=Jo hz q
 show T.sub Z h.aj (.agg [.int v,.sl 0 false (l.map T.int)]) (.agg [.int v,.own j])
 replace this:T.sub Z h.aj (.sl 0 false (l.map T.int)) (.own j):=this
 simp only[T.sub] at this
 simp only[T.sub,T.dD]
 exact⟨trivial,this,trivial⟩
theorem GX{Z:Nat->Prop}{h:Hz}{i j:Nat}{l:List Elem}{e:Elem}(q:h.get i=some (.row 55 3 (.elems l) [.agg [.int e.value,.own j]]))(hi: ¬ Z i)(hz:Z j)(qj:h.get j=some (jZ e.counts)) :
  ∃ o',h.get i=some o'/\ ¬ Z i/\o'.aF.ty=(nS (l++[e])).aF.ty/\o'.aF.k=(nS (l++[e])).aF.k/\T.dD Z h.aj (nS (l++[e])).aF.l o'.aF.l/\(nS (l++[e])).aF.l.map T.kd=o'.aF.l.map T.kd/\(nS (l++[e])).aF.l.map fQ=o'.aF.l.map fQ:=by
 have e1:(nS (l++[e])).aF.l=l.map sQ++[sQ e]:=by simp[OV.aF,Rw.aT,V.aT]
 refine⟨_,q,hi,rfl,rfl,?_,?_,?_⟩
 ·rw[e1]
  exact yY (bZ _) ⟨aaC hz qj,trivial⟩
 ·rw[e1]; show _=List.map T.kd (l.map sQ++[.agg [.int e.value,.own j]])
  rw[List.map_append,List.map_append]; rfl
 ·rw[e1]; show _=List.map fQ (l.map sQ++[.agg [.int e.value,.own j]])
  rw[List.map_append,List.map_append]; rfl
theorem pO{b n:Nat}(hb:b<=9)(hn:n<=6):b^n<=531441:=Nat.le_trans (Nat.pow_le_pow_left hb n) (Nat.le_trans (Nat.pow_le_pow_right (by decide) hn) (by decide))
theorem Td{b n j:Nat}(hb0:0<b)(hb:b<=9)(hn:n<=6):(je b n j).length<=531441:=Nat.le_trans (Jz hb0) (pO hb hn)
theorem Tf{b n j k:Nat}(hb0:0<b)(hb:b<=9)(hn:n<=6)(hk:k<=9):(um b n j k).length<=9*531441:=Nat.le_trans (SN hb0) (Nat.mul_le_mul hk (pO hb hn))
set_option maxHeartbeats 1000000 in
theorem S.VO(n m:Nat)(hn0:0<n)(Ar:n<=6)(hm8:m<=8):ak Tryz.prog 73 [.int n,.int m] (.row 0 false (.kZ (allB (m+1) n))):=by
 have hb0:0<m+1:=by omega
 refine ak.of Bd.KH (by simp) rfl rfl ?_
 conv=>whnf
 have hm:=yS (n:=n) hn0
 rw[hm]
 conv=>whnf
 repeat(refine VC.mk (by first|(omega)|(simp only[okI] at *; omega)) ?_; conv=>whnf)
 refine aJ.MX 1 [0,1] (fun j:Nat=>[(6,.int ((j:Int)-1)),(5,.own 0)]) (fun j=>[(0,oJ (je (m+1) n j))]) (fun j=>j<=n) (fun j=>j) n [3] [(3,some (oJ ([]++[List.replicate n 0])))] rfl (by decide) (fun _=>rfl) (Nat.le_refl _) ?_ ?_ ?_ ?_
 ·exact⟨⟨_,rfl,.eq rfl⟩,⟨_,rfl,.eq rfl⟩,trivial⟩
 ·exact⟨fun i=>i=2,JE (Z:=fun i=>i=2) (i:=3) (j:=2) rfl rfl (by decide) rfl rfl,trivial⟩
 ·exact⟨okF rfl nofun rfl rfl rfl ⟨rfl,rfl⟩ (by simp[je,eX]),trivial⟩
 conv=>whnf
 refine⟨⟨⟨_,rfl,.eq rfl⟩,⟨_,rfl,.eq rfl⟩,trivial⟩,rfl,?_⟩
 rintro j hj
 conv=>whnf
 refine⟨fun h3=>?_,fun h3=>?_⟩
 ·obtain⟨j,rfl⟩: ∃ i,j=i+1:=⟨j-1,by have:=of_decide_eq_true h3; omega⟩
  have ej:(((j+1:Nat):Int)-1)=(j:Int):=by omega
  rw[ej]
  conv=>whnf
  refine aJ.nil 7 24 0 (by rfl) rfl rfl rfl ?_
  refine aJ.objs 2 [0,1,5,6] (fun k:Nat=>[(8,.int k),(7,.own 1)]) (fun k=>[(0,oJ (je (m+1) n (j+1))),(1,oJ (um (m+1) n j k))]) (fun k=>k<=m+1) (fun k=>m+1-k) 0 [0,5] rfl (by decide) (fun _=>rfl) (Nat.zero_le _) ?_ ?_ ?_
  ·exact⟨⟨_,rfl,.eq rfl⟩,⟨_,rfl,.eq rfl⟩,trivial⟩
  ·exact⟨⟨rfl,nofun,rfl,rfl,rfl,_,rfl,rfl,rfl,bn.of_eq rfl⟩,⟨rfl,nofun,rfl,rfl,rfl,_,rfl,rfl,rfl,bn.of_eq rfl⟩,trivial⟩
  conv=>whnf
  refine⟨⟨⟨_,rfl,.eq rfl⟩,⟨_,rfl,.eq rfl⟩,⟨_,rfl,.eq rfl⟩,⟨_,rfl,.eq rfl⟩,trivial⟩,rfl,?_⟩
  rintro k hk
  have hkl:=@Tf (m+1) n j k hb0 (by omega) Ar (by omega)
  have hol:=@Td (m+1) n (j+1) hb0 (by omega) Ar
  conv=>whnf
  refine⟨fun h4=>?_,fun h4=>?_⟩
  ·have hk3:k<=m:=by have:=of_decide_eq_true h4; omega
   conv=>whnf
   refine aJ.MX 2 [0,1,5,6,8] (fun i:Nat=>[(9,.int i),(7,.own 1)]) (fun i=>[(0,oJ (je (m+1) n (j+1))),(1,oJ (um (m+1) n j k++((je (m+1) n (j+1)).take i).map fun c=>c.set j (k:Int)))]) (fun i=>i<=(je (m+1) n (j+1)).length) (fun i=>(je (m+1) n (j+1)).length-i) 0 [0,1] [(0,some (oJ (je (m+1) n (j+1)))),(1,some (oJ (um (m+1) n j k)))] rfl (by decide) (fun _=>rfl) (Nat.zero_le _) ?_ ?_ ?_ ?_
   ·exact⟨⟨_,rfl,.eq rfl⟩,⟨_,rfl,.eq rfl⟩,trivial⟩
   ·exact⟨fun _=>False,bG (Z:=fun _=>False) rfl (fun q=>q),bG (Z:=fun _=>False) rfl (fun q=>q),trivial⟩
   ·exact⟨okF rfl nofun rfl rfl rfl ⟨rfl,rfl⟩ rfl,okF rfl nofun rfl rfl rfl ⟨rfl,rfl⟩ (by simp),trivial⟩
   conv=>whnf
   refine⟨⟨⟨_,rfl,.eq rfl⟩,⟨_,rfl,.eq rfl⟩,⟨_,rfl,.eq rfl⟩,⟨_,rfl,.eq rfl⟩,⟨_,rfl,.eq rfl⟩,trivial⟩,rfl,?_⟩
   rintro i hi
   have hal:(um (m+1) n j k++((je (m+1) n (j+1)).take i).map fun c=>c.set j (k:Int)).length<=10*531441:=by
    rw[List.length_append,List.length_map,List.length_take]; omega
   conv=>whnf
   refine⟨fun h5=>?_,fun h5=>?_⟩
   ·have hi':i<(je (m+1) n (j+1)).length:=by simpa using h5
    have hcl:((je (m+1) n (j+1)).getD i []).length=n:=SS hj (getM hi')
    conv=>whnf
    repeat(refine VC.mk (by first|(first|(simp only[mD,lH,Rw.len,Int.toNat_natCast,hcl]; omega)|(simp only[Rw.rng,Int.toNat_natCast,hcl]; omega)|(show((um (m+1) n j k++((je (m+1) n (j+1)).take i).map fun c=>c.set j (k:Int)).length+(0+1))*24<=140737488355328/\(um (m+1) n j k++((je (m+1) n (j+1)).take i).map fun c=>c.set j (k:Int)).length+(0+1)<=1152921504606846976; omega))|(simp only[okI] at *; omega)) ?_; conv=>whnf)
    refine⟨[(0,some (oJ (je (m+1) n (j+1)))),(21,some (oJ ((um (m+1) n j k++((je (m+1) n (j+1)).take i).map fun c=>c.set j (k:Int))++[((je (m+1) n (j+1)).getD i []).set j (k:Int)])))],i+1,[0,21],⟨fun i=>i=11,bG (Z:=fun i=>i=11) (i:=0) rfl (by decide),JE (Z:=fun i=>i=11) (i:=21) (j:=11) rfl rfl (by decide) rfl rfl,trivial⟩,by omega,by omega,⟨⟨_,rfl,.eq rfl⟩,⟨_,rfl,.eq rfl⟩,trivial⟩,⟨⟨_,rfl,.eq rfl⟩,⟨_,rfl,.eq rfl⟩,⟨_,rfl,.eq rfl⟩,⟨_,rfl,.eq rfl⟩,⟨_,rfl,.eq rfl⟩,trivial⟩,okF rfl nofun rfl rfl rfl ⟨rfl,rfl⟩ rfl,okF rfl nofun rfl rfl rfl ⟨rfl,rfl⟩ ?_,trivial⟩
    have ht:(je (m+1) n (j+1)).take (i+1)=(je (m+1) n (j+1)).take i++[(je (m+1) n (j+1)).getD i []]:=by rw[List.take_add_one]; simp[hi']
    rw[ht,List.map_append,<- List.append_assoc]; rfl
   ·have hi':i=(je (m+1) n (j+1)).length:=by
     have: ¬ ((i:Int)<((je (m+1) n (j+1)).length:Int)):=of_decide_eq_false h5
     omega
    subst hi'
    rw[List.take_length,<- GN]
    conv=>whnf
    refine .mk (by first|(simp only[okI]; omega)|omega) ?_
    conv=>whnf
    refine⟨k+1,[0,1],by omega,by omega,⟨⟨_,rfl,.eq rfl⟩,⟨_,rfl,.eq rfl⟩,trivial⟩,⟨⟨_,rfl,.eq rfl⟩,⟨_,rfl,.eq rfl⟩,⟨_,rfl,.eq rfl⟩,⟨_,rfl,.eq rfl⟩,trivial⟩,⟨rfl,nofun,rfl,rfl,rfl,_,rfl,rfl,rfl,bn.of_eq rfl⟩,⟨rfl,nofun,rfl,rfl,rfl,_,rfl,rfl,rfl,bn.of_eq rfl⟩,trivial⟩
  ·have hk4:k=m+1:=by have:=of_decide_eq_false h4; omega
   subst hk4
   rw[Pq hb0 (by omega)]
   conv=>whnf
   refine .mk (by first|(simp only[okI]; omega)|omega) ?_
   conv=>whnf
   refine⟨[(1,some (oJ (je (m+1) n j)))],j,[1],⟨fun _=>False,bG (Z:=fun _=>False) rfl (fun q=>q),trivial⟩,by omega,by omega,⟨⟨_,rfl,.eq rfl⟩,⟨_,rfl,.eq rfl⟩,trivial⟩,⟨⟨_,rfl,.eq rfl⟩,⟨_,rfl,.eq rfl⟩,trivial⟩,okF rfl nofun rfl rfl rfl ⟨rfl,rfl⟩ rfl,trivial⟩
 ·have hj0:j=0:=by have:=of_decide_eq_false h3; omega
  subst hj0
  rw[SQ]
  conv=>whnf
  exact au.acf rfl
theorem MZ{b n i:Nat}(hi:i<b^n):(allB b n).getD i []=eX b n i:=by
 unfold allB; simp[List.getD_eq_getElem?_getD,hi]
theorem GY{b n:Nat}:(allB b n).length=b^n:=by simp[allB]
theorem VP{b n v:Nat}(hb0:0<b)(hb:b<=9):Bl (eX b n v):=fun x hx=>by have:=Gy hb0 x hx; omega
theorem VQ{e:Elem}(hl:e.counts.length<=6)(hc:Bl e.counts):nD e=e.counts.sum:=by
 rw[nD,if_neg (by omega),if_pos]
 rw[List.all_eq_true]; intro x hx; exact Yv.2 (hc x hx)
def posB(b n w i:Nat):List Elem:=((allB b n).take i).filterMap fun c=>bif decide (c.sum>0) then some (⟨(w:Int),c⟩:Elem) else none
theorem Ti{b n w i:Nat}(hi:i<b^n):posB b n w (i+1)=posB b n w i++bif decide ((eX b n i).sum>0) then [⟨(w:Int),eX b n i⟩] else []:=by
 unfold posB
 have h:i<(allB b n).length:=by rw[GY]; exact hi
 have e:=MZ hi
 rw[show(allB b n).getD i []=(allB b n)[i] by simp[h]] at e
 rw[List.take_add_one,List.filterMap_append,List.getElem?_eq_getElem h,e,show(some (eX b n i)).toList=[eX b n i] from rfl,List.filterMap_cons,List.filterMap_nil]
 cases decide ((eX b n i).sum>0)<;>rfl
theorem VR{b n w:Nat}(hb:0<b):posB b n w (b^n)=sU b n w (b^n-1):=by
 unfold posB
 rw[List.take_of_length_le (by rw[GY]; exact Nat.le_refl _)]; exact VF hb
theorem VT{b n w i:Nat}:(posB b n w i).length<=i:=by
 unfold posB
 have:=List.length_filterMap_le (fun c=>bif decide (c.sum>0) then some (⟨(w:Int),c⟩:Elem) else none) ((allB b n).take i)
 rw[List.length_take] at this; omega
set_option maxHeartbeats 1000000 in
theorem S.wE(p:aU)(n vals m:Nat)(_hp:dh p)(hn:p.states.length=n)(hn0:0<n)(Ar:n<=6)(hvs:max 1 p.values.length=vals)(nM:vals<=3)(hm8:m<=8) :
  ak Tryz.prog 56 [.dat (.dF p),.int m] (.row 3 false (.elems (eY (m+1) n vals))):=by
 have hb0:0<m+1:=by omega
 have h46:(m+1)^n<=531441:=pO (by omega) Ar
 have hAl:(allB (m+1) n).length=(m+1)^n:=GY
 have hA:=S.VO n m hn0 Ar hm8
 rw[<- hn] at hA
 refine ak.of Bd.wE (by simp) rfl rfl ?_
 conv=>whnf
 refine ah.pure (hA) rfl ?_
 conv=>whnf
 rw[hn]
 refine aJ.nil 6 55 3 (by rfl) rfl rfl rfl ?_
 refine aJ.objs 2 [2,5] (fun v:Nat=>[(7,.int v),(6,.own 1)]) (fun v=>[(0,.box 27 11 (.dat (.dF p))),(1,nS (eY (m+1) n v))]) (fun v=>v<=vals) (fun v=>vals-v) 0 [0,10] rfl (by decide) (fun _=>rfl) (Nat.zero_le _) ?_ ?_ ?_
 ·exact⟨⟨_,rfl,.eq rfl⟩,⟨_,rfl,.eq rfl⟩,trivial⟩
 ·exact⟨⟨rfl,nofun,rfl,rfl,rfl,_,rfl,rfl,rfl,bn.of_eq rfl⟩,⟨rfl,nofun,rfl,rfl,rfl,_,rfl,rfl,rfl,bn.of_eq rfl⟩,trivial⟩
 conv=>whnf
 refine⟨⟨⟨_,rfl,.eq rfl⟩,⟨_,rfl,.eq rfl⟩,trivial⟩,rfl,?_⟩
 rintro v hv
 have hrl:(eY (m+1) n v).length=v*((m+1)^n-1):=pG
 have hr2:v*((m+1)^n-1)<=3*531441:=Nat.mul_le_mul (by omega) (by omega)
 conv=>whnf
 refine⟨fun h3=>?_,fun h3=>?_⟩
 ·have hv':v<vals:=by
   have:(v:Int)<max 1 (p.values.length:Int):=of_decide_eq_true h3
   omega
  conv=>whnf
  refine aJ.MX 2 [2,5,7] (fun i:Nat=>[(8,.int i),(6,.own 1)]) (fun i=>[(0,.box 27 11 (.dat (.dF p))),(1,nS (eY (m+1) n v++posB (m+1) n v i))]) (fun i=>i<=(m+1)^n) (fun i=>(m+1)^n-i) 0 [0,1] [(0,some (.box 27 11 (.dat (.dF p)))),(1,some (nS (eY (m+1) n v)))] rfl (by decide) (fun _=>rfl) (Nat.zero_le _) ?_ ?_ ?_ ?_
  ·exact⟨⟨_,rfl,.eq rfl⟩,⟨_,rfl,.eq rfl⟩,trivial⟩
  ·exact⟨fun _=>False,bG (Z:=fun _=>False) rfl (fun q=>q),bG (Z:=fun _=>False) rfl (fun q=>q),trivial⟩
  ·exact⟨okF rfl nofun rfl rfl rfl ⟨rfl,rfl⟩ rfl,okF rfl nofun rfl rfl rfl ⟨rfl,rfl⟩ (by simp[posB]),trivial⟩
  conv=>whnf
  refine⟨⟨⟨_,rfl,.eq rfl⟩,⟨_,rfl,.eq rfl⟩,⟨_,rfl,.eq rfl⟩,trivial⟩,rfl,?_⟩
  rintro i hi
  have hsl:=@VT (m+1) n v i
  have hal:(eY (m+1) n v++posB (m+1) n v i).length<=4*531441:=by rw[List.length_append]; omega
  conv=>whnf
  refine⟨fun h4=>?_,fun h4=>?_⟩
  ·have hi':i<(m+1)^n:=by
    have:(i:Int)<((allB (m+1) n).length:Int):=of_decide_eq_true h4
    omega
   have hget:=MZ hi'
   have hss:=@Ti (m+1) n v i hi'
   have hdl:(eX (m+1) n i).length=n:=dW
   have htot:nD ⟨(v:Int),eX (m+1) n i⟩=(eX (m+1) n i).sum:=VQ (by show(eX (m+1) n i).length<=6; omega) (VP hb0 (by omega))
   conv=>whnf
   repeat(refine VC.mk (by first|(simp only[Rw.rng,Int.toNat_natCast,hAl]; omega)|(simp only[mD,lH,Rw.len,Int.toNat_natCast]; rw[hget,dW]; omega)) ?_; conv=>whnf)
   rw[show(allB (m+1) n).getD (i:Int).toNat []=eX (m+1) n i from hget]
   refine ah.lend (S.wF ⟨(v:Int),eX (m+1) n i⟩ (by show(eX (m+1) n i).length<2^40; omega)) ⟨aaC trivial rfl,trivial⟩ rfl rfl ?_
   rw[htot]
   refine⟨fun h5=>?_,fun h5=>?_⟩
   ·rw[show decide ((eX (m+1) n i).sum>0)=true from h5] at hss
    conv=>whnf
    repeat(refine VC.mk (by first|(first|(simp only[Rw.rng,Int.toNat_natCast,hAl]; omega)|(simp only[mD,lH,Rw.len]; rw[hget,dW]; omega)|(show((eY (m+1) n v++posB (m+1) n v i).length+(0+1))*32<=140737488355328/\(eY (m+1) n v++posB (m+1) n v i).length+(0+1)<=1152921504606846976; omega))|(simp only[okI] at *; omega)) ?_; conv=>whnf)
    refine⟨[(0,some (.box 27 11 (.dat (.dF p)))),(22,some (nS ((eY (m+1) n v++posB (m+1) n v i)++[⟨(v:Int),eX (m+1) n i⟩])))],i+1,[0,22],⟨fun i=>i=12,bG (Z:=fun i=>i=12) (i:=0) rfl (by decide),GX (Z:=fun i=>i=12) (i:=22) (j:=12) rfl (by decide) rfl rfl,trivial⟩,by omega,by omega,⟨⟨_,rfl,.eq rfl⟩,⟨_,rfl,.eq rfl⟩,trivial⟩,⟨⟨_,rfl,.eq rfl⟩,⟨_,rfl,.eq rfl⟩,⟨_,rfl,.eq rfl⟩,trivial⟩,okF rfl nofun rfl rfl rfl ⟨rfl,rfl⟩ rfl,okF rfl nofun rfl rfl rfl ⟨rfl,rfl⟩ ?_,trivial⟩
    rw[hss,<- List.append_assoc]; rfl
   ·rw[show decide ((eX (m+1) n i).sum>0)=false from h5] at hss
    conv=>whnf
    refine .mk (by simp only[okI] at *; omega) ?_
    conv=>whnf
    refine⟨[(0,some (.box 27 11 (.dat (.dF p)))),(1,some (nS (eY (m+1) n v++posB (m+1) n v i)))],i+1,[0,1],⟨fun _=>False,bG (Z:=fun _=>False) rfl (fun q=>q),bG (Z:=fun _=>False) rfl (fun q=>q),trivial⟩,by omega,by omega,⟨⟨_,rfl,.eq rfl⟩,⟨_,rfl,.eq rfl⟩,trivial⟩,⟨⟨_,rfl,.eq rfl⟩,⟨_,rfl,.eq rfl⟩,⟨_,rfl,.eq rfl⟩,trivial⟩,okF rfl nofun rfl rfl rfl ⟨rfl,rfl⟩ rfl,okF rfl nofun rfl rfl rfl ⟨rfl,rfl⟩ (by rw[hss]; simp),trivial⟩
  ·have hi':i=(m+1)^n:=by
    have: ¬ ((i:Int)<((allB (m+1) n).length:Int)):=of_decide_eq_false h4
    omega
   rw[hi',VR hb0,<- zT]
   conv=>whnf
   refine .mk (by simp only[okI] at *; omega) ?_
   conv=>whnf
   refine⟨v+1,[0,1],by omega,by omega,⟨⟨_,rfl,.eq rfl⟩,⟨_,rfl,.eq rfl⟩,trivial⟩,⟨⟨_,rfl,.eq rfl⟩,⟨_,rfl,.eq rfl⟩,trivial⟩,⟨rfl,nofun,rfl,rfl,rfl,_,rfl,rfl,rfl,bn.of_eq rfl⟩,⟨rfl,nofun,rfl,rfl,rfl,_,rfl,rfl,rfl,bn.of_eq rfl⟩,trivial⟩
 ·have hv':v=vals:=by
   have: ¬ (v:Int)<max 1 (p.values.length:Int):=of_decide_eq_false h3
   omega
  rw[hv']
  conv=>whnf
  exact au.acg rfl
end Go.Proofs.YtbfhebmdcpmfaaaGreatDoor
