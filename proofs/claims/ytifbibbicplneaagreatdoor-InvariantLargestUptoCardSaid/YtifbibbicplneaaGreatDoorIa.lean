/-
 A part of the proof. No condition.
-/
import Derived.Test.YtifbibbicplneaaGreatDoorLf
import Derived.Test.YtifbibbicplneaaGreatDoorFa
namespace Go.Proofs.YtifbibbicplneaaGreatDoor
open Go.Ab Go.Proofs
set_option maxRecDepth 100000
def yK(l:List Int)(x:Int):Int:=bif l.any (fun y=>x==y) then 1 else 0
def rV(l c:List Int):Int:=(l.map fun x=>c.getD x.toNat 0).sum
def dR(c:List Int)(x:Int):List Int:=c.set x.toNat (c.getD x.toNat 0-1)
def qJ:List (List Int)->List Int->List Int->Bool
 |[],l,c=>l.any fun x=>decide (c.getD x.toNat 0>0)
 |s::r,l,c=>s.all fun x=>c.getD x.toNat 0==0||qJ r l (dR c x)
def KT(k:Clause)(v:Int):Bool:=decide ((k.values.length:Int)>0)&& !(k.values.any fun y=>v==y)
def holdsB(k:Clause)(e:Elem):Bool:=KT k e.value||qJ k.each k.some e.counts
def F8(n:Nat)(l:List Int):Prop:=(∀ x∈l,0<=x/\x<n)/\l.Pairwise (· < ·)
structure CS(n vals:Nat)(k:Clause):Prop where
 two:k.each.length<=2
 each: ∀ s∈k.each,F8 n s/\s≠[]
 values:F8 vals k.values
 some:F8 n k.some
theorem OM{l c:List Int}(h: ∀ x∈l,0<=c.getD x.toNat 0):(l.any fun x=>decide (c.getD x.toNat 0>0))=decide (0<rV l c)/\0<=rV l c:=by
 induction l with
 |nil=>simp[rV]
 |cons x r ih =>
  have h1:=h x (by simp)
  obtain⟨h2,h3⟩:=ih fun y hy=>h y (List.mem_cons_of_mem _ hy)
  have e:rV (x::r) c=c.getD x.toNat 0+rV r c:=by simp[rV]
  rw[List.any_cons,h2,e]
  refine⟨?_,by omega⟩
  rw[<- Bool.decide_or]
  exact decide_eq_decide.2 ⟨fun h=>by omega,fun h=>by omega⟩
theorem qK{c:List Int}{a b:Int}(ha:0<=a/\a<c.length)(hb:0<=b):(dR c a).getD b.toNat 0=c.getD b.toNat 0-(if b=a then 1 else 0):=by
 unfold dR
 by_cases e:b=a
 ·subst e
  have:b.toNat<c.length:=by omega
  rw[if_pos rfl]
  simp[this]
 ·rw[if_neg e]
  have hne:a.toNat≠b.toNat:=by omega
  simp[List.getD_eq_getElem?_getD,List.getElem?_set_ne hne]
theorem EY{l c:List Int}{a:Int}(ha:0<=a/\a<c.length)(hl: ∀ x∈l,0<=x)(hd:l.Pairwise (· < ·)):rV l (dR c a)=rV l c-yK l a:=by
 induction l with
 |nil=>simp[rV,yK]
 |cons x r ih =>
  have h1:=ih (fun y hy=>hl y (List.mem_cons_of_mem _ hy)) (List.pairwise_cons.1 hd).2
  have e: ∀ c,rV (x::r) c=c.getD x.toNat 0+rV r c:=fun c=>by simp[rV]
  rw[e,e,h1,qK ha (hl x (by simp))]
  have h2:=(List.pairwise_cons.1 hd).1
  by_cases hx:x=a
  ·subst hx
   have:yK r x=0:=by
    unfold yK
    rw[show(r.any fun y=>x==y)=false from by
     rw[List.any_eq_false]; intro y hy he; have:=h2 y hy; have:=beq_iff_eq.1 he; omega]; rfl
   rw[this]
   simp[yK]; omega
  ·have:yK (x::r) a=yK r a:=by
    unfold yK; rw[List.any_cons,show(a==x)=false from beq_eq_false_iff_ne.2 fun h=>hx h.symm,Bool.false_or]
   rw[this,if_neg hx]; omega
def MS(k:Clause)(c:List Int)(a:Int):Bool:=decide (rV k.some c-yK k.some a<=0)
def EZ(k:Clause)(c:List Int)(a b:Int):Bool:=(b !=a&&decide (c.getD b.toNat 0>0)||decide (c.getD b.toNat 0>1))&&decide (rV k.some c-yK k.some a-yK k.some b<=0)
def zl(k:Clause)(c:List Int)(a:Int):Bool:=c.getD a.toNat 0==0|| !((k.each.length:Int)==1&&MS k c a)&& !(decide ((k.each.length:Int)>1)&&(k.each.getD 1 []).any (EZ k c a))
def MV(k:Clause)(e:Elem):Bool:=KT k e.value||bif (k.each.length:Int)==0 then decide (rV k.some e.counts>0) else(k.each.getD 0 []).all (zl k e.counts)
theorem rW{α:Type}{l:List α}{p q:α->Bool}(h: ∀ x∈l,p x=q x):l.all p=l.all q:=by
 induction l with
 |nil=>rfl
 |cons x r ih=>rw[List.all_cons,List.all_cons,h x (by simp),ih fun y hy=>h y (List.mem_cons_of_mem _ hy)]
theorem Ik{α:Type}{l:List α}{p q:α->Bool}(h: ∀ x∈l,p x=q x):l.any p=l.any q:=by
 induction l with
 |nil=>rfl
 |cons x r ih=>rw[List.any_cons,List.any_cons,h x (by simp),ih fun y hy=>h y (List.mem_cons_of_mem _ hy)]
theorem aag{α:Type}{l:List α}{p q:α->Bool}(h: ∀ x∈l,p x= !q x):l.all p= !l.any q:=by
 induction l with
 |nil=>rfl
 |cons x r ih=>rw[List.all_cons,List.any_cons,h x (by simp),ih fun y hy=>h y (List.mem_cons_of_mem _ hy),Bool.not_or]
theorem yL{c:List Int}(h: ∀ x∈c,0<=x)(i:Nat):0<=c.getD i 0:=by
 by_cases hi:i<c.length
 ·rw[show c.getD i 0=c[i] by simp[hi]]; exact h _ (List.getElem_mem hi)
 ·rw[show c.getD i 0=0 by simp[List.getD_eq_getElem?_getD,List.getElem?_eq_none (by omega:c.length<=i)]]; omega
theorem Uc{vals:Nat}{k:Clause}{e:Elem}(hk:CS e.counts.length vals k)(hc: ∀ x∈e.counts,0<=x):MV k e=holdsB k e:=by
 unfold MV holdsB
 congr 1
 obtain⟨each,values,l⟩:=k
 obtain⟨v,c⟩:=e
 simp only at hk hc ⊢
 have hl:=hk.some
 have base:qJ [] l c=decide (0<rV l c):=(OM fun x _=>yL hc _).1
 have base': ∀ c',(∀ x∈l,0<=c'.getD x.toNat 0)->qJ [] l c'=decide (0<rV l c'):=fun c' h=>(OM h).1
 match each,hk with
 |[],_=>simp only[List.length_nil]; exact base.symm
 |[s],hk =>
  have hs:=(hk.each s (by simp)).1
  show(s.all (zl ⟨[s],values,l⟩ c))=s.all fun x=>c.getD x.toNat 0==0||qJ [] l (dR c x)
  refine rW fun a ha=>?_
  have h1:=hs.1 a ha
  have h0:=yL hc a.toNat
  unfold zl
  cases hz:c.getD a.toNat 0==0 with
  |true=>rfl
  |false =>
   have hz':c.getD a.toNat 0≠0:=by intro h; rw[h] at hz; cases hz
   rw[base' (dR c a) fun x hx=>by
    rw[qK h1 (hl.1 x hx).1]
    have:=yL hc x.toNat
    split
    ·rename_i e; subst e; omega
    ·omega]
   rw[EY h1 (fun x hx=>(hl.1 x hx).1) hl.2]
   simp only[MS,List.length_singleton,Bool.false_or]
   have:(!decide (rV l c-yK l a<=0))=decide (0<rV l c-yK l a):=by
    rw[<- decide_not]; exact decide_eq_decide.2 ⟨fun h=>by omega,fun h=>by omega⟩
   simpa using this
 |[s,t],hk =>
  have hs:=(hk.each s (by simp)).1
  have ht:=(hk.each t (by simp)).1
  show(s.all (zl ⟨[s,t],values,l⟩ c))=s.all fun x=>c.getD x.toNat 0==0||t.all fun y=>(dR c x).getD y.toNat 0==0||qJ [] l (dR (dR c x) y)
  refine rW fun a ha=>?_
  have h1:=hs.1 a ha
  have h0:=yL hc a.toNat
  unfold zl
  cases hz:c.getD a.toNat 0==0 with
  |true=>rfl
  |false =>
   have hz':c.getD a.toNat 0≠0:=by intro h; rw[h] at hz; cases hz
   have e2:((([s,t]:List (List Int)).length:Int)==1)=false:=rfl
   have e3:decide ((([s,t]:List (List Int)).length:Int)>1)=true:=rfl
   simp only[e2,e3,Bool.false_or,Bool.false_and,Bool.not_false,Bool.true_and]
   refine Eq.symm (aag fun b hb=>?_)
   have h2:=ht.1 b hb
   have g2:=yL hc b.toNat
   have hlen:(dR c a).length=c.length:=by simp[dR]
   have gb:=qK (c:=c) h1 h2.1
   have hcd:((dR c a).getD b.toNat 0==0)= !(b !=a&&decide (c.getD b.toNat 0>0)||decide (c.getD b.toNat 0>1)):=by
    rw[gb]
    by_cases e:b=a
    ·subst e
     rw[if_pos rfl,show(b !=b)=false from by simp,Bool.false_and,Bool.false_or,<- decide_not]
     rw[show(c.getD b.toNat 0-1==0)=decide (c.getD b.toNat 0-1=0) from rfl]
     exact decide_eq_decide.2 ⟨fun h=>by omega,fun h=>by omega⟩
    ·rw[if_neg e,show(b !=a)=true from by simp[e],Bool.true_and,<- Bool.decide_or,<- decide_not]
     rw[show(c.getD b.toNat 0-0==0)=decide (c.getD b.toNat 0-0=0) from rfl]
     exact decide_eq_decide.2 ⟨fun h=>by omega,fun h=>by omega⟩
   rw[hcd]
   unfold EZ
   cases hg:(b !=a&&decide (c.getD b.toNat 0>0)||decide (c.getD b.toNat 0>1)) with
   |false=>rfl
   |true =>
    have hpos:(dR c a).getD b.toNat 0≠0:=by
     intro h; rw[hg,h] at hcd; cases hcd
    have hnn: ∀ x:Int,0<=x->0<=(dR c a).getD x.toNat 0:=fun x hx=>by
     rw[qK h1 hx]
     have:=yL hc x.toNat
     split
     ·rename_i e; subst e; omega
     ·omega
    have h2':0<=b/\b<(dR c a).length:=by rw[hlen]; exact h2
    rw[base' (dR (dR c a) b) fun x hx=>by
     rw[qK h2' (hl.1 x hx).1]
     have h3:=hnn x (hl.1 x hx).1
     split
     ·rename_i e; subst e; omega
     ·omega]
    rw[EY h2' (fun x hx=>(hl.1 x hx).1) hl.2,EY h1 (fun x hx=>(hl.1 x hx).1) hl.2]
    simp only[Bool.not_true,Bool.false_or,Bool.true_and]
    rw[<- decide_not]; exact decide_eq_decide.2 ⟨fun h=>by omega,fun h=>by omega⟩
def lS(r:Int)(c d:List Int):Prop:=c.length=d.length/\ ∀ i,0<=c.getD i 0/\0<=d.getD i 0/\min (c.getD i 0) r=min (d.getD i 0) r
theorem Il{l:List Int}: ∀ {each:List (List Int)} {r:Int} {c d:List Int},lS r c d->(each.length:Int)+(if 0<l.length then 1 else 0)<=r->(∀ s∈each,∀ x∈s,0<=x/\x<c.length)->qJ each l c=qJ each l d:=by
 intro each
 induction each with
 |nil =>
  intro r c d h hr _
  cases l with
  |nil=>rfl
  |cons y l =>
   simp only[List.length_cons,if_pos (Nat.succ_pos _),List.length_nil] at hr
   refine Ik fun x _=>decide_eq_decide.2 ?_
   have:=h.2 x.toNat
   constructor<;>intro g<;>omega
 |cons s each ih =>
  intro r c d h hr hs
  simp only[List.length_cons] at hr
  have hr1:1<=r:=by split at hr<;>omega
  show(s.all fun x=>c.getD x.toNat 0==0||qJ each l (dR c x))=s.all fun x=>d.getD x.toNat 0==0||qJ each l (dR d x)
  refine rW fun x hx=>?_
  have hxs:=hs s (by simp) x hx
  have hxd:0<=x/\x<d.length:=by rw[<- h.1]; exact hxs
  obtain⟨a1,a2,a3⟩:=h.2 x.toNat
  by_cases hz:c.getD x.toNat 0=0
  ·have:d.getD x.toNat 0=0:=by omega
   rw[hz,this]; rfl
  ·have hd:d.getD x.toNat 0≠0:=by omega
   rw[beq_eq_false_iff_ne.2 hz,beq_eq_false_iff_ne.2 hd,Bool.false_or,Bool.false_or]
   refine ih (r:=r-1) ⟨by simp[dR,h.1],fun i=>?_⟩ (by omega) fun t ht y hy=>by
    have:=hs t (List.mem_cons_of_mem _ ht) y hy
    simpa [dR] using this
   have gi:=h.2 i
   have t1:=qK (c:=c) (b:=(i:Int)) hxs (by omega)
   have t2:=qK (c:=d) (b:=(i:Int)) hxd (by omega)
   simp only[Int.toNat_natCast] at t1 t2
   rw[t1,t2]
   by_cases e:(i:Int)=x
   ·have e':x.toNat=i:=by omega
    rw[e'] at hz hd
    rw[if_pos e]; omega
   ·rw[if_neg e]; omega
def nC(k:Clause):Int:=(k.each.length:Int)+(if 0<k.some.length then 1 else 0)
def bI(l:List Clause):Int:=l.foldl (fun r k=>max r (nC k)) 0
def oU(r:Int)(c:List Int):List Int:=c.map fun x=>min x r
def oD(r:Int)(e:Elem):Elem:=⟨e.value,oU r e.counts⟩
def zQ(r:Int)(v:Int)(c:List Int):Int:=c.foldl (fun k x=>k*(r+1)+min x r) v
def keyE(r:Int)(e:Elem):Int:=zQ r e.value e.counts
def fE(l:List Clause)(e:Elem):List Bool:=l.map fun k=>holdsB k e
theorem MW{r:Int}{c:List Int}(hr:0<=r){i:Nat}:(oU r c).getD i 0=min (c.getD i 0) r:=by
 by_cases hi:i<c.length
 ·simp[oU,hi]
 ·rw[show(oU r c).getD i 0=0 by simp[oU,List.getD_eq_getElem?_getD,List.getElem?_eq_none (by omega:c.length<=i)],show c.getD i 0=0 by simp[List.getD_eq_getElem?_getD,List.getElem?_eq_none (by omega:c.length<=i)]]; omega
theorem Io{l:List Clause}: ∀ {r:Int},r<=l.foldl (fun r k=>max r (nC k)) r/\ ∀ k∈l,nC k<=l.foldl (fun r k=>max r (nC k)) r:=by
 induction l with
 |nil=>intro r; exact⟨by simp,fun k h=>by cases h⟩
 |cons x l ih =>
  intro r
  have:=@ih (max r (nC x))
  rw[List.foldl_cons]
  refine⟨by omega,fun k hk=>?_⟩
  rcases List.mem_cons.1 hk with rfl|hk
  ·omega
  ·exact this.2 k hk
theorem yM{l:List Clause}{k:Clause}(h:k∈l):nC k<=bI l:=Io.2 k h
theorem qL{l:List Clause}:0<=bI l:=Io.1
theorem pz{l:List Clause}(h: ∀ k∈l,k.each.length<=2):bI l<=3:=by
 have: ∀ (l:List Clause) (r:Int),r<=3->(∀ k∈l,k.each.length<=2)->l.foldl (fun r k=>max r (nC k)) r<=3:=by
  intro l
  induction l with
  |nil=>intro r hr _; exact hr
  |cons x l ih =>
   intro r hr h
   rw[List.foldl_cons]
   refine ih _ ?_ fun k hk=>h k (List.mem_cons_of_mem _ hk)
   have:=h x (by simp)
   unfold nC
   split<;>omega
 exact this l 0 (by omega) h
theorem E5{n vals:Nat}{k:Clause}{e:Elem}{r:Int}(hk:CS n vals k)(hn:e.counts.length=n)(hc: ∀ x∈e.counts,0<=x)(hr:nC k<=r):holdsB k (oD r e)=holdsB k e:=by
 have hr0:0<=r:=by unfold nC at hr; split at hr<;>omega
 unfold holdsB oD
 congr 1
 refine Il (r:=r) ⟨by simp[oU],fun i=>?_⟩ hr fun s hs x hx=>by
  have:=(hk.each s hs).1.1 x hx
  simpa [oU,hn] using this
 have:=yL hc i
 rw[MW hr0]; omega
theorem key_inj{r:Int}(hr:0<=r): ∀ {n:Nat} {v w:Int} {c d:List Int},c.length=n->d.length=n->(∀ x∈c,0<=x)->(∀ x∈d,0<=x)->zQ r v c=zQ r w d->v=w/\oU r c=oU r d:=by
 intro n
 induction n with
 |zero =>
  intro v w c d hc hd _ _ h
  have:c=[]:=List.eq_nil_of_length_eq_zero hc
  subst this
  have:d=[]:=List.eq_nil_of_length_eq_zero hd
  subst this
  exact⟨h,rfl⟩
 |succ n ih =>
  intro v w c d hc hd pc pd h
  have e1:c≠[]:=by intro e; subst e; simp at hc
  have e2:d≠[]:=by intro e; subst e; simp at hd
  obtain⟨c',x,rfl⟩: ∃ c' x,c=c'++[x]:=⟨_,_,(List.dropLast_concat_getLast e1).symm⟩
  obtain⟨d',y,rfl⟩: ∃ d' y,d=d'++[y]:=⟨_,_,(List.dropLast_concat_getLast e2).symm⟩
  simp only[zQ,List.foldl_append,List.foldl_cons,List.foldl_nil] at h
  have hx:=pc x (by simp)
  have hy:=pd y (by simp)
  have hb: ∀ {a b p q:Int},a*(r+1)+p=b*(r+1)+q->0<=p->p<=r->0<=q->q<=r->a=b/\p=q:=by
   intro a b p q h p1 p2 q1 q2
   have hab:(a-b)*(r+1)=q-p:=by rw[Int.sub_mul]; omega
   rcases Int.lt_trichotomy a b with g|g|g
   ·exfalso
    have:(b-a)*(r+1)>=1*(r+1):=Int.mul_le_mul_of_nonneg_right (by omega) (by omega)
    have e:(b-a)*(r+1)= -((a-b)*(r+1)):=by rw[<- Int.neg_mul]; congr 1; omega
    omega
   ·subst g; simp at hab; omega
   ·exfalso
    have:(a-b)*(r+1)>=1*(r+1):=Int.mul_le_mul_of_nonneg_right (by omega) (by omega)
    omega
  obtain⟨h1,h2⟩:=hb h (by omega) (by omega) (by omega) (by omega)
  obtain⟨h3,h4⟩:=ih (by simpa using hc) (by simpa using hd) (fun z hz=>pc z (by simp[hz])) (fun z hz=>pd z (by simp[hz])) h1
  refine⟨h3,?_⟩
  unfold oU at h4 ⊢
  rw[List.map_append,List.map_append,h4]; simp[h2]
structure Vo(n:Nat)(e:Elem):Prop where
 len:e.counts.length=n
 nn: ∀ x∈e.counts,0<=x
theorem aah{n vals:Nat}{l:List Clause}{e f:Elem}(hl: ∀ k∈l,CS n vals k)(he:Vo n e)(hf:Vo n f)(h:keyE (bI l) e=keyE (bI l) f):fE l e=fE l f:=by
 obtain⟨h1,h2⟩:=key_inj qL he.len hf.len he.nn hf.nn h
 refine List.map_congr_left fun k hk=>?_
 rw[<- E5 (hl k hk) he.len he.nn (yM hk),<- E5 (hl k hk) hf.len hf.nn (yM hk)]
 unfold oD
 rw[h1,h2]
theorem aai{n vals:Nat}{l:List Clause}{e:Elem}(hl: ∀ k∈l,CS n vals k)(he:Vo n e):fE l (oD (bI l) e)=fE l e :=
 List.map_congr_left fun k hk=>E5 (hl k hk) he.len he.nn (yM hk)
def gB(n:Nat)(l:List Clause)(es:List (Int×List Bool)):Prop:= ∀ e,Vo n e-> ∀ row,xH (keyE (bI l) e) es=some row->row=fE l e
theorem gB.nil{n:Nat}{l:List Clause}:gB n l []:=fun e _ row h=>by cases h
theorem XK{k:Int}{p:Int×List Bool}: ∀ {es:List (Int×List Bool)} {row:List Bool},xH k (es++[p])=some row->xH k es=some row\/(k=p.1/\row=p.2):=by
 intro es
 induction es with
 |nil =>
  intro row h
  obtain⟨a,b⟩:=p
  simp only[List.nil_append,xH] at h
  cases hb:k==a with
  |true=>rw[hb] at h; cases h; exact .inr ⟨beq_iff_eq.1 hb,rfl⟩
  |false=>rw[hb] at h; cases h
 |cons q es ih =>
  obtain⟨a,b⟩:=q
  intro row h
  simp only[List.cons_append,xH] at h ⊢
  cases hb:k==a with
  |true=>rw[hb] at h; exact .inl h
  |false=>rw[hb] at h; exact ih h
theorem gB.add{n vals:Nat}{l:List Clause}{es:List (Int×List Bool)}{e:Elem}(h:gB n l es)(hl: ∀ k∈l,CS n vals k)(he:Vo n e):gB n l (es++[(keyE (bI l) e,fE l e)]):=by
 intro f hf row hr
 rcases XK hr with hr|⟨h1,rfl⟩
 ·exact h f hf row hr
 ·exact aah hl he hf h1.symm
def fD(b:Nat):Nat->Nat->List Int
 |0,_=>[]
 |n+1,v=>fD b n (v / b)++[((v % b:Nat):Int)]
theorem eF{b:Nat}: ∀ {n v:Nat},(fD b n v).length=n:=by
 intro n
 induction n with
 |zero=>intro v; rfl
 |succ n ih=>intro v; simp[fD,ih]
theorem Ip{b:Nat}(hb:0<b): ∀ {n v:Nat},∀ x∈fD b n v,0<=x/\x<b:=by
 intro n
 induction n with
 |zero=>intro v x h; cases h
 |succ n ih =>
  intro v x h
  rcases List.mem_append.1 h with h|h
  ·exact ih x h
  ·rw[List.mem_singleton] at h; subst h
   have:=Nat.mod_lt v hb
   omega
theorem Iq{b n u:Nat}(hb:0<b): ∀ {k:Nat},fD b (n+k) (u*b^k)=fD b n u++List.replicate k 0:=by
 intro k
 induction k with
 |zero=>simp
 |succ k ih =>
  rw[<- Nat.add_assoc]
  simp only[fD]
  rw[Nat.pow_succ,<- Nat.mul_assoc,Nat.mul_div_cancel _ hb,ih,Nat.mul_mod_left,List.append_assoc,List.replicate_succ']
  rfl
theorem AV{b n:Nat}(hb:0<b):fD b n 0=List.replicate n 0:=by
 have:=@Iq b 0 0 hb n
 simpa [fD] using this
theorem OO{b:Nat}(hb:0<b): ∀ {n v:Nat},v<b^n->v≠0->0<(fD b n v).sum:=by
 intro n
 induction n with
 |zero=>intro v h h0; simp at h; omega
 |succ n ih =>
  intro v h h0
  simp only[fD,List.sum_append,List.sum_singleton]
  have hnn:0<=(fD b n (v / b)).sum:=by
   have: ∀ l:List Int,(∀ x∈l,0<=x)->0<=l.sum:=by
    intro l
    induction l with
    |nil=>intro _; simp
    |cons x l ih=>intro h; have:=h x (by simp); have:=ih fun y hy=>h y (by simp[hy]); simp only[List.sum_cons]; omega
   exact this _ fun x hx=>(Ip hb x hx).1
  by_cases hd:v / b=0
  ·have h1:v<b:=by rcases Nat.div_eq_zero_iff.1 hd with h|h<;>omega
   have:v % b=v:=Nat.mod_eq_of_lt h1
   omega
  ·have:v / b<b^n:=by
    rw[Nat.div_lt_iff_lt_mul hb,<- Nat.pow_succ]; exact h
   have:=ih this hd
   omega
def uw(b n v k:Nat):List Int:=fD b (n-k) (v / b^k)++List.replicate k 0
theorem KU{b n v k:Nat}(h:k<=n):(uw b n v k).length=n:=by simp[uw,eF]; omega
theorem Ir{b n v:Nat}:uw b n v 0=fD b n v:=by simp[uw]
theorem pO{b n v k:Nat}(h:k<n):uw b n v k=fD b (n-k-1) (v / b^k / b)++(((v / b^k % b:Nat):Int)::List.replicate k 0):=by
 unfold uw
 obtain⟨j,hj⟩: ∃ j,n-k=j+1:=⟨n-k-1,by omega⟩
 rw[hj,fD,List.append_assoc]; rfl
theorem Iu{b n v k:Nat}(_h:k<n):uw b n v (k+1)=fD b (n-k-1) (v / b^k / b)++((0:Int)::List.replicate k 0):=by
 unfold uw
 rw[Nat.pow_succ,<- Nat.div_div_eq_div_mul,Nat.sub_add_eq,List.replicate_succ]
theorem Ud{a b:Nat}(hb:0<b)(h:a % b+1≠b):(a+1) / b=a / b/\(a+1) % b=a % b+1:=by
 have h1:=Nat.mod_lt a hb
 have h2:=Nat.div_add_mod a b
 have e:a+1=(a % b+1)+b*(a / b):=by omega
 have h3:a % b+1<b:=by omega
 constructor
 ·rw[e,Nat.add_mul_div_left _ _ hb,Nat.div_eq_of_lt h3]; omega
 ·rw[e,Nat.add_mul_mod_self_left,Nat.mod_eq_of_lt h3]
theorem XL{a b:Nat}(_hb:0<b)(h:a % b+1=b):(a / b+1)*b=a+1:=by
 have h2:=Nat.div_add_mod a b
 rw[Nat.succ_mul,Nat.mul_comm]; omega
theorem KX{b n v k:Nat}(hb:0<b)(h:k<n)(h3:v / b^k % b+1≠b)(hv:v+1=(v / b^k+1)*b^k):fD b (n-k-1) (v / b^k / b)++((((v / b^k % b:Nat):Int)+1)::List.replicate k 0)=fD b n (v+1):=by
 have e:fD b n (v+1)=fD b ((n-k-1+1)+k) ((v / b^k+1)*b^k):=by rw[<- hv]; congr 1; omega
 obtain⟨m1,m2⟩:=Ud hb h3
 rw[e,Iq hb,fD,List.append_assoc,m1,m2]
 rfl
theorem Iw{b v k:Nat}(hb:0<b)(h3:v / b^k % b+1=b)(hv:v+1=(v / b^k+1)*b^k):v+1=(v / b^(k+1)+1)*b^(k+1):=by
 have e:v / b^(k+1)=v / b^k / b:=by rw[Nat.pow_succ,<- Nat.div_div_eq_div_mul]
 rw[e,Nat.pow_succ,Nat.mul_comm (b^k) b,<- Nat.mul_assoc,XL hb h3]
 exact hv
theorem Ue{b n v k:Nat}(hb:0<b)(h:k<n)(hlt:v<b^n)(h3:v / b^k % b+1≠b)(hv:v+1=(v / b^k+1)*b^k):v+1<b^n:=by
 have e:b^n=b^(n-k-1)*b*b^k:=by
  rw[<- Nat.pow_succ,<- Nat.pow_add]; congr 1; omega
 have h1:v / b^k<b^(n-k-1)*b:=by
  rw[Nat.div_lt_iff_lt_mul (Nat.pow_pos hb),<- e]; exact hlt
 have h2:v / b^k+1<b^(n-k-1)*b:=by
  rcases Nat.lt_or_ge (v / b^k+1) (b^(n-k-1)*b) with g|g
  ·exact g
  ·exfalso
   have e2:v / b^k+1=b^(n-k-1)*b:=by omega
   have m:=(Ud hb h3).2
   rw[e2,Nat.mul_mod_left] at m
   omega
 rw[hv,e]
 exact Nat.mul_lt_mul_of_pos_right h2 (Nat.pow_pos hb)
theorem OQ{b n v:Nat}(hlt:v<b^n)(hv:v+1=(v / b^n+1)*b^n):v+1=b^n:=by
 rw[Nat.div_eq_of_lt hlt] at hv; omega
def uH(b n w u:Nat):List Elem:=(List.range u).map fun v=>⟨(w:Int),fD b n (v+1)⟩
def fJ(b n vals:Nat):List Elem:=(List.range vals).flatMap fun w=>uH b n w (b^n-1)
theorem KY{b n w u:Nat}:uH b n w (u+1)=uH b n w u++[⟨(w:Int),fD b n (u+1)⟩]:=by
 unfold uH; rw[List.range_succ,List.map_append]; rfl
theorem AX{b n w:Nat}:fJ b n (w+1)=fJ b n w++uH b n w (b^n-1):=by
 unfold fJ; rw[List.range_succ,List.flatMap_append]; simp
theorem Iy{b n w u:Nat}:(uH b n w u).length=u:=by simp[uH]
theorem qM{b n vals:Nat}:(fJ b n vals).length=vals*(b^n-1):=by
 induction vals with
 |zero=>simp[fJ]
 |succ w ih=>rw[AX,List.length_append,ih,Iy,Nat.succ_mul]
structure uy(b n vals:Nat)(e:Elem):Prop where
 len:e.counts.length=n
 rng: ∀ x∈e.counts,0<=x/\x<b
 val:0<=e.value/\e.value<vals
 pos:0<e.counts.sum
theorem sO{b n vals:Nat}(hb:0<b): ∀ e∈fJ b n vals,uy b n vals e:=by
 intro e h
 obtain⟨w,hw,h2⟩:=List.mem_flatMap.1 h
 obtain⟨v,hv,rfl⟩:=List.mem_map.1 h2
 have:=List.mem_range.1 hw
 have:=List.mem_range.1 hv
 have hp:0<b^n:=Nat.pow_pos hb
 exact⟨eF,fun x hx=>Ip hb x hx,⟨by show(0:Int)<=w; omega,by show(w:Int)<vals; omega⟩,OO hb (by omega) (by omega)⟩
def allB(b n:Nat):List (List Int):=(List.range (b^n)).map (fD b n)
theorem filter_some{α β:Type}{g:α->Option β}{f:α->β}{l:List α}(h: ∀ v∈l,g v=some (f v)):l.filterMap g=l.map f:=by
 induction l with
 |nil=>rfl
 |cons x l ih=>rw[List.filterMap_cons,h x (by simp),List.map_cons,ih fun y hy=>h y (by simp[hy])]
theorem XM{b n w:Nat}(hb:0<b):((allB b n).filterMap fun c=>bif decide (c.sum>0) then some (⟨(w:Int),c⟩:Elem) else none)=uH b n w (b^n-1):=by
 obtain⟨m,hm⟩: ∃ m,b^n=m+1:=⟨b^n-1,by have:=Nat.pow_pos (n:=n) hb; omega⟩
 unfold allB uH
 rw[hm,Nat.add_sub_cancel,List.range_succ_eq_map,List.map_cons,AV hb,List.filterMap_cons]
 have hz:(List.replicate n (0:Int)).sum=0:=by simp
 simp only[hz,gt_iff_lt,Int.lt_irrefl,decide_false,cond_false]
 rw[List.map_map,List.filterMap_map]
 refine filter_some fun v hv=>?_
 have:v+1<b^n:=by have:=List.mem_range.1 hv; omega
 have:=OO hb this (by omega)
 simp only[Function.comp,Nat.succ_eq_add_one]
 rw[show decide (0<(fD b n (v+1)).sum)=true from decide_eq_true this]
 rfl
theorem KZ{b k:Nat}(hb:0<b)(hk:k<b): ∀ {m u:Nat},u<b^m->fD b (m+1) (k*b^m+u)=(k:Int)::fD b m u:=by
 intro m
 induction m with
 |zero =>
  intro u hu
  have h:u=0:=(by simpa using hu)
  subst h
  simp only[fD,Nat.pow_zero,Nat.mul_one,Nat.add_zero,List.nil_append]
  rw[Nat.mod_eq_of_lt hk]
 |succ m ih =>
  intro u hu
  rw[Nat.pow_succ] at hu
  have e:k*b^(m+1)=b*(k*b^m):=by rw[Nat.pow_succ,<- Nat.mul_assoc,Nat.mul_comm]
  rw[e,fD]
  rw[Nat.mul_add_div hb,Nat.mul_add_mod,ih (show u / b<b^m by rw[Nat.div_lt_iff_lt_mul hb]; exact hu),fD]
  rfl
def jB(b n j:Nat):List (List Int):=(List.range (b^(n-j))).map fun u=>List.replicate j 0++fD b (n-j) u
def vI(b n j k:Nat):List (List Int):=(List.range k).flatMap fun k=>(jB b n (j+1)).map fun c=>c.set j (k:Int)
theorem Iz{b n j k:Nat}:vI b n j (k+1)=vI b n j k++(jB b n (j+1)).map fun c=>c.set j (k:Int):=by
 unfold vI
 rw[List.range_succ,List.flatMap_append]; simp
theorem La{b n j:Nat}(hb:0<b):(jB b n j).length<=b^n:=by
 simp only[jB,List.length_map,List.length_range]
 exact Nat.pow_le_pow_right hb (by omega)
theorem Vp{b n j k:Nat}(hb:0<b):(vI b n j k).length<=k*b^n:=by
 induction k with
 |zero=>simp[vI]
 |succ k ih =>
  rw[Iz,List.length_append,List.length_map,Nat.succ_mul]
  have:=@La b n (j+1) hb
  omega
theorem Ru{α:Type}{M:Nat}{f:Nat->α}: ∀ {a:Nat},(List.range (a*M)).map f=(List.range a).flatMap fun k=>(List.range M).map fun u=>f (k*M+u):=by
 intro a
 induction a with
 |zero=>simp
 |succ a ih =>
  rw[Nat.succ_mul,List.range_add,List.map_append,ih,List.range_succ,List.flatMap_append]
  simp
theorem Rx{b n j:Nat}(hb:0<b)(hj:j<n):vI b n j b=jB b n j:=by
 have e:n-j=(n-(j+1))+1:=by omega
 unfold vI jB
 rw[e,Nat.pow_succ,Nat.mul_comm,Ru]
 refine congrArg List.flatten (List.map_congr_left fun k hk=>?_)
 rw[List.map_map]
 refine List.map_congr_left fun u hu=>?_
 rw[KZ hb (List.mem_range.1 hk) (List.mem_range.1 hu)]
 show(List.replicate (j+1) 0++fD b (n-(j+1)) u).set j (k:Int)=_
 rw[List.replicate_succ',List.append_assoc]
 have: ∀ (l:List Int) (r:List Int) (x y:Int),l.length=j->(l++([x]++r)).set j y=l++(y::r):=by
  intro l r x y h; subst h; simp
 exact this _ _ _ _ (by simp)
theorem Vq{b n:Nat}:jB b n 0=allB b n:=by simp[jB,allB]
theorem Vr{b n j:Nat}(hj:j<=n){c:List Int}(h:c∈jB b n j):c.length=n:=by
 obtain⟨u,_,rfl⟩:=List.mem_map.1 h
 simp[eF]; omega
structure ug(k:Clause):Prop where
 each:k.each.length<2^30
 rows: ∀ i,(k.each.getD i []).length<2^30
 values:k.values.length<2^30
 some:k.some.length<2^30
structure SmallK(l:List Clause):Prop where
 len:l.length<2^30
 cl: ∀ i,ug (l.getD i default)
def GY(p:aX):Int:=bif dH p==0&& !(kG p).monadic then 7 else dH p
def tu(p:aX)(q:Prop'):Int:=bif jo p q !=0 then jo p q else dV (GY p !=0||q.kind !=1) 7
def oK(n:Int)(s:List Int):Int:=bif dO s n !=0 then dO s n else dV ((s.length:Int)==0) 1
def xA(p:aX)(k:Clause):Int :=
 bif decide ((k.each.length:Int)>2) then 1 else
 bif aT (k.each.map (oK p.states.length)) !=0 then aT (k.each.map (oK p.states.length)) else
 bif dO k.values p.values.length !=0 then dO k.values p.values.length else dO k.some p.states.length
def kP(p:aX)(l:List Clause):Int:=bif decide ((l.length:Int)>160) then 4 else aT (l.map (xA p))
theorem S.kQ(l:List Int)(n:Int)(f:Bool)(hl:l.length<2^40):aj Tryz.prog 120 [.row 0 f (.ints l),.int n] (.int (dO l n)):=by
 refine aj.of Bd.kQ (by simp) rfl rfl ?_
 conv=>whnf
 refine aF.same [0,1,8,9] (fun i:Nat=>[(10,.int i)]) (fun i=>i<=l.length/\(l.take i).any (fun i=>nK i n)=false) (fun i=>l.length-i) 0 rfl (by decide) rfl (fun _=>rfl) ⟨by omega,by simp⟩ ⟨⟨_,rfl,rfl⟩,trivial⟩ ?_
 conv=>whnf
 refine⟨rfl,?_⟩
 rintro i ⟨hi,hall⟩
 conv=>whnf
 refine⟨fun h3=>?_,fun h3=>?_⟩
 ·have hi':i<l.length:=by simpa using h3
  conv=>whnf
  repeat(refine VC.mk (by first|exact fun h=>⟨h,h⟩|(intro h; rw[h]; rfl)|(simp only[Rw.rng] at *; omega)) ?_; conv=>whnf)
  refine⟨fun h4=>?_,fun h4=>?_⟩
  ·conv=>whnf
   refine ak.int ?_
   rw[dO,fQ (d:=0) hi' h4]; rfl
  ·conv=>whnf
   refine .mk (by simp only[okI] at *; omega) ?_
   conv=>whnf
   refine⟨i+1,⟨by omega,?_⟩,by omega,⟨⟨_,rfl,rfl⟩,trivial⟩,?_,rfl⟩
   ·rw[jl (d:=0) hi' hall]; exact h4
   ·repeat' (first|exact trivial|exact⟨_,rfl,rfl⟩|constructor)
 ·have hi':l.length<=i:=by simpa using h3
  rw[List.take_of_length_le hi'] at hall
  conv=>whnf
  refine aF.same [0] (fun i:Nat=>[(7,.int (i+1))]) (fun i=>(i<l.length\/i=0)/\wX l=wX (l.drop i)) (fun i=>l.length-i) 0 rfl (by decide) rfl (fun _=>rfl) ⟨by omega,by simp⟩ ⟨⟨_,rfl,rfl⟩,trivial⟩ ?_
  conv=>whnf
  refine⟨rfl,?_⟩
  rintro i ⟨hi,hinc⟩
  conv=>whnf
  refine⟨fun h5=>?_,fun h5=>?_⟩
  ·have hi1:i+1<l.length:=by have:=of_decide_eq_true h5; omega
   rw[bC 0 (show i<l.length by omega),bC 0 hi1] at hinc
   simp only[wX] at hinc
   rw[<- bC 0 hi1] at hinc
   conv=>whnf
   repeat(refine VC.mk (by simp only[okI,Rw.rng] at *; omega) ?_; conv=>whnf)
   refine⟨fun h6=>?_,fun h6=>?_⟩
   ·conv=>whnf
    refine ak.int ?_
    have e1:((i:Int)+1).toNat=i+1:=by omega
    have e2:((i:Int)+1-1).toNat=i:=by omega
    rw[e1,e2] at h6
    have h6':l.getD (i+1) 0<=l.getD i 0:=of_decide_eq_true h6
    rw[dO,hall,hinc,decide_eq_false (by omega)]; rfl
   ·conv=>whnf
    refine .mk (by simp only[okI] at *; omega) ?_
    conv=>whnf
    have e1:((i:Int)+1).toNat=i+1:=by omega
    have e2:((i:Int)+1-1).toNat=i:=by omega
    rw[e1,e2] at h6
    have h6': ¬ l.getD (i+1) 0<=l.getD i 0:=of_decide_eq_false h6
    rw[decide_eq_true (by omega),Bool.true_and] at hinc
    refine⟨i+1,⟨by omega,hinc⟩,by omega,⟨⟨_,rfl,rfl⟩,trivial⟩,?_,rfl⟩
    repeat' (first|exact trivial|exact⟨_,rfl,rfl⟩|constructor)
  ·conv=>whnf
   refine ak.int ?_
   have h5': ¬ ((i:Int)+1<l.length):=of_decide_eq_false h5
   have:wX l=true:=by
    rw[hinc]
    rcases hd:l.drop i with _|⟨a,_|⟨b,r⟩⟩
    ·rfl
    ·rfl
    ·have:=congrArg List.length hd
     simp only[List.length_drop,List.length_cons] at this
     omega
   rw[dO,hall,this]; rfl
theorem S.yN(l:List Int)(n:Int)(f:Bool)(hl:l.length<2^40):aj Tryz.prog 138 [.row 0 f (.ints l),.int n] (.int (dO l n)):=by
 refine aj.of Bd.yN (by simp) rfl rfl ?_
 conv=>whnf
 refine aF.same [0,1] (fun i:Nat=>[(5,.int i)]) (fun i=>i<=l.length/\(l.take i).any (fun i=>nK i n)=false) (fun i=>l.length-i) 0 rfl (by decide) rfl (fun _=>rfl) ⟨by omega,by simp⟩ ⟨⟨_,rfl,rfl⟩,trivial⟩ ?_
 conv=>whnf
 refine⟨rfl,?_⟩
 rintro i ⟨hi,hall⟩
 conv=>whnf
 refine⟨fun h3=>?_,fun h3=>?_⟩
 ·have hi':i<l.length:=by simpa using h3
  conv=>whnf
  repeat(refine VC.mk (by first|exact id|exact fun h=>⟨h,h⟩|(intro h; rw[h]; rfl)|(intro h; (repeat' apply And.intro)<;>first|exact h|omega|(simp only[Rw.lM]; omega)|(simp only[Rw.rng]; omega))|(simp only[Rw.rng] at *; omega)) ?_; conv=>whnf)
  refine⟨fun h4=>?_,fun h4=>?_⟩
  ·conv=>whnf
   refine ak.int ?_
   rw[dO,fQ (d:=0) hi' h4]; rfl
  ·conv=>whnf
   refine .mk (by simp only[okI] at *; omega) ?_
   conv=>whnf
   refine⟨i+1,⟨by omega,?_⟩,by omega,⟨⟨_,rfl,rfl⟩,trivial⟩,?_,rfl⟩
   ·rw[jl (d:=0) hi' hall]; exact h4
   ·repeat' (first|exact trivial|exact⟨_,rfl,rfl⟩|constructor)
 ·have hi':l.length<=i:=by simpa using h3
  rw[List.take_of_length_le hi'] at hall
  conv=>whnf
  refine aF.same [0] (fun i:Nat=>[(6,.int (i+1))]) (fun i=>(i<l.length\/i=0)/\wX l=wX (l.drop i)) (fun i=>l.length-i) 0 rfl (by decide) rfl (fun _=>rfl) ⟨by omega,by simp⟩ ⟨⟨_,rfl,rfl⟩,trivial⟩ ?_
  conv=>whnf
  refine⟨rfl,?_⟩
  rintro i ⟨hi,hinc⟩
  conv=>whnf
  refine⟨fun h5=>?_,fun h5=>?_⟩
  ·have hi1:i+1<l.length:=by have:=of_decide_eq_true h5; omega
   rw[bC 0 (show i<l.length by omega),bC 0 hi1] at hinc
   simp only[wX] at hinc
   rw[<- bC 0 hi1] at hinc
   conv=>whnf
   repeat(refine VC.mk (by simp only[okI,Rw.rng] at *; omega) ?_; conv=>whnf)
   refine⟨fun h6=>?_,fun h6=>?_⟩
   ·conv=>whnf
    refine ak.int ?_
    have e1:((i:Int)+1).toNat=i+1:=by omega
    have e2:((i:Int)+1-1).toNat=i:=by omega
    rw[e1,e2] at h6
    have h6':l.getD i 0>=l.getD (i+1) 0:=of_decide_eq_true h6
    rw[dO,hall,hinc,decide_eq_false (by omega)]; rfl
   ·conv=>whnf
    refine .mk (by simp only[okI] at *; omega) ?_
    conv=>whnf
    have e1:((i:Int)+1).toNat=i+1:=by omega
    have e2:((i:Int)+1-1).toNat=i:=by omega
    rw[e1,e2] at h6
    have h6': ¬ l.getD i 0>=l.getD (i+1) 0:=of_decide_eq_false h6
    rw[decide_eq_true (by omega),Bool.true_and] at hinc
    refine⟨i+1,⟨by omega,hinc⟩,by omega,⟨⟨_,rfl,rfl⟩,trivial⟩,?_,rfl⟩
    repeat' (first|exact trivial|exact⟨_,rfl,rfl⟩|constructor)
  ·conv=>whnf
   refine ak.int ?_
   have h5': ¬ ((i:Int)+1<l.length):=of_decide_eq_false h5
   have:wX l=true:=by
    rw[hinc]
    rcases hd:l.drop i with _|⟨a,_|⟨b,r⟩⟩
    ·rfl
    ·rfl
    ·have:=congrArg List.length hd
     simp only[List.length_drop,List.length_cons] at this
     omega
   rw[dO,hall,this]; rfl
theorem S.gU(p:aX)(hp:dn p):aj Tryz.prog 62 [.dat (.bW p)] (.int (GY p)):=by
 refine aj.of Bd.gU (by simp) rfl rfl ?_
 conv=>whnf
 refine ah.pure (S.kH p hp) rfl ?_
 conv=>whnf
 repeat(refine VC.mk id ?_; conv=>whnf)
 refine⟨fun h1=>?_,fun h1=>?_⟩
 ·conv=>whnf
  have h2:dH p=0:=by
   cases hv:(dH p==0) with
   |true=>exact beq_iff_eq.1 hv
   |false=>rw[hv] at h1; cases h1
  refine ak.int ?_
  rw[GY,h2]
  rw[show(bif (dH p !=0) then OT else kG p)=kG p by rw[h2]; rfl] at h1
  rw[h2] at h1
  rw[show((0:Int)==0&& !(kG p).monadic)=true from h1]; rfl
 ·conv=>whnf
  refine ak.int ?_
  unfold GY
  cases hv:(dH p==0) with
  |false=>rfl
  |true =>
   rw[show(bif (dH p !=0) then OT else kG p)=kG p by rw[beq_iff_eq.1 hv]; rfl,hv] at h1
   rw[show(true&& !(kG p).monadic)=false from h1]; rfl
theorem S.ku(p:aX)(q:Prop')(hp:dn p)(hq:jF q):aj Tryz.prog 43 [.dat (.bW p),.dat (.prop q)] (.int (tu p q)):=by
 refine aj.of Bd.ku (by simp) rfl rfl ?_
 conv=>whnf
 refine ah.pure (S.dP p q hp hq) rfl ?_
 conv=>whnf
 refine⟨fun h1=>?_,fun h1=>?_⟩
 ·conv=>whnf
  exact ak.int (by rw[tu,h1]; rfl)
 conv=>whnf
 refine ah.pure (S.gU p hp) rfl ?_
 conv=>whnf
 repeat(refine VC.mk (by first|exact id|(intro h; rw[h]; rfl)) ?_; conv=>whnf)
 refine⟨fun h2=>?_,fun h2=>?_⟩
 ·conv=>whnf
  exact ak.int (by rw[tu,h1,show(GY p !=0||q.kind !=1)=true by simpa using h2]; rfl)
 ·conv=>whnf
  exact ak.int (by rw[tu,h1,show(GY p !=0||q.kind !=1)=false by simpa using h2]; rfl)
theorem S.xI(p:aX)(q:Prop')(hp:dn p)(hq:jF q):aj Tryz.prog 44 [.dat (.bW p),.dat (.prop q)] (.int (tu p q)):=by
 refine aj.of Bd.xI (by simp) rfl rfl ?_
 conv=>whnf
 refine ah.pure (S.gy p q hp hq) rfl ?_
 conv=>whnf
 refine⟨fun h1=>?_,fun h1=>?_⟩
 ·conv=>whnf
  exact ak.int (by rw[tu,h1]; rfl)
 have hv:=Rt (yF h1)
 have hin:(GY p !=0)= !(kG p).monadic:=by
  rw[GY,hv]; cases (kG p).monadic<;>rfl
 conv=>whnf
 refine ah.pure (S.qN p hp) rfl ?_
 conv=>whnf
 repeat(refine VC.mk (by first|exact id|(intro h; rw[h]; rfl)) ?_; conv=>whnf)
 rw[show(bif (dH p !=0) then OT else kG p)=kG p by rw[hv]; rfl]
 refine⟨fun h2=>?_,fun h2=>?_⟩
 ·conv=>whnf
  exact ak.int (by rw[tu,h1,hin,show(!(kG p).monadic||q.kind !=1)=true by simpa using h2]; rfl)
 ·conv=>whnf
  exact ak.int (by rw[tu,h1,hin,show(!(kG p).monadic||q.kind !=1)=false by simpa using h2]; rfl)
theorem IB(a:Int)(r:List Int):aT (a::r)=bif a !=0 then a else aT r:=by
 by_cases h:a=0
 ·subst h; rfl
 ·rw[show(a !=0)=true by simp[h]]; simp[aT,h]
theorem Lc{n:Int}{k:Clause}{i:Nat}(hi:i<k.each.length):aT ((k.each.drop i).map (oK n))=bif oK n (k.each.getD i []) !=0 then oK n (k.each.getD i []) else aT ((k.each.drop (i+1)).map (oK n)):=by
 rw[bC [] hi,List.map_cons,IB]
theorem DY{p:aX}{l:List Clause}{i:Nat}(hi:i<l.length):aT ((l.drop i).map (xA p))=bif xA p (l.getD i default) !=0 then xA p (l.getD i default) else aT ((l.drop (i+1)).map (xA p)):=by
 rw[bC default hi,List.map_cons,IB]
theorem S.dI(p:aX)(k:Clause)(hp:dn p)(hk:ug k):aj Tryz.prog 78 [.dat (.bW p),.dat (.clause k)] (.int (xA p k)):=by
 have g1:=hp.states; have g2:=hp.values; have k1:=hk.each; have k2:=hk.values; have k3:=hk.some
 refine aj.of Bd.dI (by simp) rfl rfl ?_
 conv=>whnf
 refine⟨fun h1=>?_,fun h1=>?_⟩
 ·conv=>whnf
  exact ak.int (by rw[xA,h1]; rfl)
 conv=>whnf
 refine aF.same [2,3,14,15] (fun i:Nat=>[(16,.int i)]) (fun i=>i<=k.each.length/\aT (k.each.map (oK p.states.length))=aT ((k.each.drop i).map (oK p.states.length))) (fun i=>k.each.length-i) 0 rfl (by decide) rfl (fun _=>rfl) ⟨by omega,by simp⟩ ⟨⟨_,rfl,rfl⟩,trivial⟩ ?_
 conv=>whnf
 refine⟨rfl,?_⟩
 rintro i ⟨hi,hf⟩
 have k4:=hk.rows i
 conv=>whnf
 refine⟨fun h3=>?_,fun h3=>?_⟩
 ·have hi':i<k.each.length:=by simpa using h3
  rw[Lc hi'] at hf
  conv=>whnf
  refine .mk (by simp only[Rw.rng] at *; first|omega|(simp_all; done)|(simp_all; omega)) ?_
  conv=>whnf
  refine ah.pure (S.kQ (k.each.getD i []) p.states.length false (by omega)) rfl ?_
  conv=>whnf
  refine⟨fun h4=>?_,fun h4=>?_⟩
  ·conv=>whnf
   refine ak.int ?_
   have e:oK p.states.length (k.each.getD i [])=dO (k.each.getD i []) p.states.length:=by rw[oK,show(dO (k.each.getD i []) p.states.length !=0)=true from h4]; rfl
   rw[e,show(dO (k.each.getD i []) p.states.length !=0)=true from h4,cond_true] at hf
   rw[xA,h1,hf,show(dO (k.each.getD i []) p.states.length !=0)=true from h4]; rfl
  ·have h4':(dO (k.each.getD i []) p.states.length !=0)=false:=h4
   have e:oK p.states.length (k.each.getD i [])=dV (((k.each.getD i []).length:Int)==0) 1:=by rw[oK,h4']; rfl
   rw[e] at hf
   conv=>whnf
   refine⟨fun h5=>?_,fun h5=>?_⟩
   ·conv=>whnf
    refine ak.int ?_
    rw[show(((k.each.getD i []).length:Int)==0)=true from h5] at hf
    rw[xA,h1,hf]; rfl
   ·conv=>whnf
    refine .mk (by simp only[okI] at *; first|omega|(simp_all; done)|(simp_all; omega)) ?_
    conv=>whnf
    rw[show(((k.each.getD i []).length:Int)==0)=false from h5] at hf
    refine⟨i+1,⟨by omega,hf⟩,by omega,⟨⟨_,rfl,rfl⟩,trivial⟩,?_,rfl⟩
    repeat' (first|exact trivial|exact⟨_,rfl,rfl⟩|constructor)
 ·have hi':k.each.length<=i:=by simpa using h3
  rw[List.drop_eq_nil_of_le hi'] at hf
  have hf0:aT (k.each.map (oK p.states.length))=0:=hf
  conv=>whnf
  refine ah.pure (S.kQ k.values p.values.length false (by omega)) rfl ?_
  conv=>whnf
  refine⟨fun h6=>?_,fun h6=>?_⟩
  ·conv=>whnf
   exact ak.int (by rw[xA,h1,hf0,show(dO k.values p.values.length !=0)=true from h6]; rfl)
  ·conv=>whnf
   refine ah.pure (S.kQ k.some p.states.length false (by omega)) rfl ?_
   conv=>whnf
   exact ak.int (by rw[xA,h1,hf0,show(dO k.values p.values.length !=0)=false from h6]; rfl)
theorem S.vJ(p:aX)(k:Clause)(hp:dn p)(hk:ug k):aj Tryz.prog 87 [.dat (.bW p),.dat (.clause k)] (.int (xA p k)):=by
 have g1:=hp.states; have g2:=hp.values; have k1:=hk.each; have k2:=hk.values; have k3:=hk.some
 refine aj.of Bd.vJ (by simp) rfl rfl ?_
 conv=>whnf
 refine⟨fun h1=>?_,fun h1=>?_⟩
 ·conv=>whnf
  exact ak.int (by rw[xA,h1]; rfl)
 conv=>whnf
 refine aF.same [2,3] (fun i:Nat=>[(5,.int i)]) (fun i=>i<=k.each.length/\aT (k.each.map (oK p.states.length))=aT ((k.each.drop i).map (oK p.states.length))) (fun i=>k.each.length-i) 0 rfl (by decide) rfl (fun _=>rfl) ⟨by omega,by simp⟩ ⟨⟨_,rfl,rfl⟩,trivial⟩ ?_
 conv=>whnf
 refine⟨rfl,?_⟩
 rintro i ⟨hi,hf⟩
 have k4:=hk.rows i
 conv=>whnf
 refine⟨fun h3=>?_,fun h3=>?_⟩
 ·have hi':i<k.each.length:=by simpa using h3
  rw[Lc hi'] at hf
  conv=>whnf
  refine .mk (by simp only[Rw.rng] at *; first|omega|(simp_all; done)|(simp_all; omega)) ?_
  conv=>whnf
  refine ah.pure (S.yN (k.each.getD i []) p.states.length false (by omega)) rfl ?_
  conv=>whnf
  refine⟨fun h4=>?_,fun h4=>?_⟩
  ·conv=>whnf
   refine ak.int ?_
   have e:oK p.states.length (k.each.getD i [])=dO (k.each.getD i []) p.states.length:=by rw[oK,show(dO (k.each.getD i []) p.states.length !=0)=true from h4]; rfl
   rw[e,show(dO (k.each.getD i []) p.states.length !=0)=true from h4,cond_true] at hf
   rw[xA,h1,hf,show(dO (k.each.getD i []) p.states.length !=0)=true from h4]; rfl
  ·have h4':(dO (k.each.getD i []) p.states.length !=0)=false:=h4
   have e:oK p.states.length (k.each.getD i [])=dV (((k.each.getD i []).length:Int)==0) 1:=by rw[oK,h4']; rfl
   rw[e] at hf
   conv=>whnf
   refine .mk (by simp only[Rw.rng] at *; first|omega|(simp_all; done)|(simp_all; omega)) ?_
   conv=>whnf
   refine⟨fun h5=>?_,fun h5=>?_⟩
   ·conv=>whnf
    refine ak.int ?_
    rw[show(((k.each.getD i []).length:Int)==0)=true from h5] at hf
    rw[xA,h1,hf]; rfl
   ·conv=>whnf
    refine .mk (by simp only[okI] at *; first|omega|(simp_all; done)|(simp_all; omega)) ?_
    conv=>whnf
    rw[show(((k.each.getD i []).length:Int)==0)=false from h5] at hf
    refine⟨i+1,⟨by omega,hf⟩,by omega,⟨⟨_,rfl,rfl⟩,trivial⟩,?_,rfl⟩
    repeat' (first|exact trivial|exact⟨_,rfl,rfl⟩|constructor)
 ·have hi':k.each.length<=i:=by simpa using h3
  rw[List.drop_eq_nil_of_le hi'] at hf
  have hf0:aT (k.each.map (oK p.states.length))=0:=hf
  conv=>whnf
  refine ah.pure (S.yN k.values p.values.length false (by omega)) rfl ?_
  conv=>whnf
  refine⟨fun h6=>?_,fun h6=>?_⟩
  ·conv=>whnf
   exact ak.int (by rw[xA,h1,hf0,show(dO k.values p.values.length !=0)=true from h6]; rfl)
  ·conv=>whnf
   refine ah.pure (S.yN k.some p.states.length false (by omega)) rfl ?_
   conv=>whnf
   exact ak.int (by rw[xA,h1,hf0,show(dO k.values p.values.length !=0)=false from h6]; rfl)
theorem S.pR(p:aX)(l:List Clause)(f:Bool)(hp:dn p)(hl:SmallK l):aj Tryz.prog 59 [.dat (.bW p),.row 4 f (.clauses l)] (.int (kP p l)):=by
 have k1:=hl.len
 refine aj.of Bd.pR (by simp) rfl rfl ?_
 conv=>whnf
 refine⟨fun h1=>?_,fun h1=>?_⟩
 ·conv=>whnf
  exact ak.int (by rw[kP,h1]; rfl)
 conv=>whnf
 refine aF.same [1,2] (fun i:Nat=>[(5,.int i)]) (fun i=>i<=l.length/\aT (l.map (xA p))=aT ((l.drop i).map (xA p))) (fun i=>l.length-i) 0 rfl (by decide) rfl (fun _=>rfl) ⟨by omega,by simp⟩ ⟨⟨_,rfl,rfl⟩,trivial⟩ ?_
 conv=>whnf
 refine⟨rfl,?_⟩
 rintro i ⟨hi,hf⟩
 conv=>whnf
 refine⟨fun h3=>?_,fun h3=>?_⟩
 ·have hi':i<l.length:=by simpa using h3
  rw[DY hi'] at hf
  conv=>whnf
  refine .mk (by simp only[Rw.rng] at *; first|omega|(simp_all; done)|(simp_all; omega)) ?_
  conv=>whnf
  refine ah.pure (S.vJ p (l.getD i default) hp (hl.cl i)) rfl ?_
  conv=>whnf
  refine⟨fun h4=>?_,fun h4=>?_⟩
  ·conv=>whnf
   rw[show(xA p (l.getD i default) !=0)=true from h4] at hf
   exact ak.int (by rw[kP,h1,hf]; rfl)
  ·conv=>whnf
   refine .mk (by simp only[okI] at *; first|omega|(simp_all; done)|(simp_all; omega)) ?_
   conv=>whnf
   rw[show(xA p (l.getD i default) !=0)=false from h4] at hf
   refine⟨i+1,⟨by omega,hf⟩,by omega,⟨⟨_,rfl,rfl⟩,trivial⟩,?_,rfl⟩
   repeat' (first|exact trivial|exact⟨_,rfl,rfl⟩|constructor)
 ·have hi':l.length<=i:=by simpa using h3
  rw[List.drop_eq_nil_of_le hi'] at hf
  conv=>whnf
  exact ak.int (by rw[kP,h1,hf]; rfl)
theorem S.iw(p:aX)(k:Clause)(hp:dn p)(hk:ug k):aj Tryz.prog 34 [.dat (.bW p),.dat (.clause k)] (.int (bif GY p !=0 then GY p else xA p k)):=by
 refine aj.of Bd.iw (by simp) rfl rfl ?_
 conv=>whnf
 refine ah.pure (S.gU p hp) rfl ?_
 conv=>whnf
 refine⟨fun h1=>?_,fun h1=>?_⟩
 ·conv=>whnf
  exact ak.int (by rw[h1]; rfl)
 ·conv=>whnf
  refine ah.pure (S.dI p k hp hk) rfl ?_
  conv=>whnf
  exact ak.int (by rw[h1]; rfl)
theorem AY{l:List Clause}{i:Nat}(hi:i<l.length):bI (l.take (i+1))=max (bI (l.take i)) (nC (l.getD i default)):=by
 unfold bI
 rw[List.take_add_one,List.foldl_append]; simp[hi]
theorem S.nM(l:List Clause)(f:Bool)(hl:SmallK l):aj Tryz.prog 47 [.row 4 f (.clauses l)] (.int (bI l)):=by
 have k1:=hl.len
 refine aj.of Bd.nM (by simp) rfl rfl ?_
 conv=>whnf
 refine aF.same [7,8] (fun i:Nat=>[(9,.int i),(3,.int (bI (l.take i)))]) (fun i=>i<=l.length) (fun i=>l.length-i) 0 rfl (by decide) rfl (fun _=>rfl) (Nat.zero_le _) ⟨⟨_,rfl,rfl⟩,⟨_,rfl,rfl⟩,trivial⟩ ?_
 conv=>whnf
 refine⟨rfl,?_⟩
 rintro i hi
 have k2:=hl.cl i
 have k3:=k2.each; have k4:=k2.some
 conv=>whnf
 refine⟨fun h3=>?_,fun h3=>?_⟩
 ·have hi':i<l.length:=by simpa using h3
  conv=>whnf
  refine .mk (by simp only[Rw.rng] at *; first|omega|(simp_all; done)|(simp_all; omega)) ?_
  conv=>whnf
  refine⟨fun h4=>?_,fun h4=>?_⟩
  ·have h4':0<(l.getD i default).some.length:=by have:=of_decide_eq_true h4; simp only[Int.toNat_natCast] at this; omega
   conv=>whnf
   repeat(refine VC.mk (by simp only[okI] at *; first|omega|(simp_all; done)|(simp_all; omega)) ?_; conv=>whnf)
   refine⟨i+1,by omega,by omega,⟨⟨_,rfl,rfl⟩,⟨_,rfl,?_⟩,trivial⟩,?_,rfl⟩
   ·rw[AY hi',nC,if_pos h4']; rfl
   ·repeat' (first|exact trivial|exact⟨_,rfl,rfl⟩|constructor)
  ·have h4': ¬ 0<(l.getD i default).some.length:=by have:=of_decide_eq_false h4; simp only[Int.toNat_natCast] at this; omega
   conv=>whnf
   refine .mk (by simp only[okI] at *; first|omega|(simp_all; done)|(simp_all; omega)) ?_
   conv=>whnf
   refine⟨i+1,by omega,by omega,⟨⟨_,rfl,rfl⟩,⟨_,rfl,?_⟩,trivial⟩,?_,rfl⟩
   ·rw[AY hi',nC,if_neg h4',Int.add_zero]; rfl
   ·repeat' (first|exact trivial|exact⟨_,rfl,rfl⟩|constructor)
 ·have hi':l.length<=i:=by simpa using h3
  rw[List.take_of_length_le hi']
  conv=>whnf
  exact ak.int rfl
theorem S.xJ(l:List Clause)(f:Bool)(hl:SmallK l):aj Tryz.prog 48 [.row 4 f (.clauses l)] (.int (bI l)):=by
 have k1:=hl.len
 refine aj.of Bd.xJ (by simp) rfl rfl ?_
 conv=>whnf
 refine aF.same [0] (fun i:Nat=>[(4,.int i),(3,.int (bI (l.take i)))]) (fun i=>i<=l.length) (fun i=>l.length-i) 0 rfl (by decide) rfl (fun _=>rfl) (Nat.zero_le _) ⟨⟨_,rfl,rfl⟩,⟨_,rfl,rfl⟩,trivial⟩ ?_
 conv=>whnf
 refine⟨rfl,?_⟩
 rintro i hi
 have k2:=hl.cl i
 have k3:=k2.each; have k4:=k2.some
 conv=>whnf
 refine⟨fun h3=>?_,fun h3=>?_⟩
 ·have hi':i<l.length:=by simpa using h3
  conv=>whnf
  repeat(refine VC.mk (by simp only[Rw.rng] at *; first|omega|(simp_all; done)|(simp_all; omega)) ?_; conv=>whnf)
  refine⟨fun h4=>?_,fun h4=>?_⟩
  ·have h4':0<(l.getD i default).some.length:=by have:=of_decide_eq_true h4; simp only[Int.toNat_natCast] at this; omega
   conv=>whnf
   repeat(refine VC.mk (by simp only[okI] at *; first|omega|(simp_all; done)|(simp_all; omega)) ?_; conv=>whnf)
   refine⟨i+1,by omega,by omega,⟨⟨_,rfl,rfl⟩,⟨_,rfl,?_⟩,trivial⟩,?_,rfl⟩
   ·rw[AY hi',nC,if_pos h4']; rfl
   ·repeat' (first|exact trivial|exact⟨_,rfl,rfl⟩|constructor)
  ·have h4': ¬ 0<(l.getD i default).some.length:=by have:=of_decide_eq_false h4; simp only[Int.toNat_natCast] at this; omega
   conv=>whnf
   refine .mk (by simp only[okI] at *; first|omega|(simp_all; done)|(simp_all; omega)) ?_
   conv=>whnf
   refine⟨i+1,by omega,by omega,⟨⟨_,rfl,rfl⟩,⟨_,rfl,?_⟩,trivial⟩,?_,rfl⟩
   ·rw[AY hi',nC,if_neg h4',Int.add_zero]; rfl
   ·repeat' (first|exact trivial|exact⟨_,rfl,rfl⟩|constructor)
 ·have hi':l.length<=i:=by simpa using h3
  rw[List.take_of_length_le hi']
  conv=>whnf
  exact ak.int rfl
def qO(p:aX)(l a:List Clause):Int:=bif kP p l !=0 then kP p l else kP p a
theorem Ry{p:aX}{l:List Clause}{k:Clause}(h1:decide ((l.length:Int)>160)=false)(h:aT (l.map (xA p))=xA p k):kP p l=xA p k:=by
 rw[kP,h1,h]; rfl
theorem S.BQ(p:aX)(l:List Clause)(g f:Bool)(hp:dn p)(hl:SmallK l):aj Tryz.prog 54 [.dat (.bW p),.zA 0 g [.row 4 f (.clauses l)]] (.int (kP p l)):=by
 have k1:=hl.len
 refine aj.of Bd.jv (by simp) rfl rfl ?_
 conv=>whnf
 refine aF.times 2 rfl ?_
 conv=>whnf
 refine Fork.mk (fun _=>?_) (fun q=>absurd (q.symm.trans (rfl)) Bool.false_ne_true)
 conv=>whnf
 refine .mk (by omega) ?_
 conv=>whnf
 refine⟨fun ha1=>?_,fun ha1=>?_⟩
 ·conv=>whnf
  exact ak.int (by rw[kP,ha1]; rfl)
 conv=>whnf
 refine aF.same [1,2,10,11,12,19,20] (fun i:Nat=>[(21,.int i)]) (fun i=>i<=l.length/\aT (l.map (xA p))=aT ((l.drop i).map (xA p))) (fun i=>l.length-i) 0 rfl (by decide) rfl (fun _=>rfl) ⟨by omega,by simp⟩ ⟨⟨_,rfl,rfl⟩,trivial⟩ ?_
 conv=>whnf
 refine⟨rfl,?_⟩
 rintro i ⟨hia,hfa⟩
 conv=>whnf
 refine⟨fun ha3=>?_,fun ha3=>?_⟩
 ·have hi':i<l.length:=by simpa using ha3
  rw[DY hi'] at hfa
  conv=>whnf
  refine .mk (by simp only[Rw.rng] at *; omega) ?_
  conv=>whnf
  refine ah.pure (S.dI p (l.getD i default) hp (hl.cl i)) rfl ?_
  conv=>whnf
  refine⟨fun h4=>?_,fun h4=>?_⟩
  ·conv=>whnf
   rw[show(xA p (l.getD i default) !=0)=true from h4] at hfa
   refine ak.int ?_
   exact(Ry ha1 hfa).symm▸rfl
  ·conv=>whnf
   refine .mk (by simp only[okI] at *; omega) ?_
   conv=>whnf
   rw[show(xA p (l.getD i default) !=0)=false from h4] at hfa
   refine⟨i+1,⟨by omega,hfa⟩,by omega,⟨⟨_,rfl,rfl⟩,trivial⟩,?_,rfl⟩
   repeat' (first|exact trivial|exact⟨_,rfl,rfl⟩|constructor)
 have ab6:l.length<=i:=by simpa using ha3
 rw[List.drop_eq_nil_of_le ab6] at hfa
 have hza:kP p l=0:=by rw[kP,ha1,hfa]; rfl
 conv=>whnf
 refine .mk (by simp only[okI] at *; omega) ?_
 conv=>whnf
 refine Fork.mk (fun q=>absurd (q.symm.trans (rfl)).symm Bool.false_ne_true) (fun _=>?_)
 conv=>whnf
 exact ak.int (by rw[hza])
theorem S.BR(p:aX)(l a:List Clause)(g f f':Bool)(hp:dn p)(hl:SmallK l)(ha:SmallK a):aj Tryz.prog 54 [.dat (.bW p),.zA 0 g [.row 4 f (.clauses l),.row 4 f' (.clauses a)]] (.int (qO p l a)):=by
 have k1:=hl.len
 have k2:=ha.len
 refine aj.of Bd.jv (by simp) rfl rfl ?_
 conv=>whnf
 refine aF.times 3 rfl ?_
 conv=>whnf
 refine Fork.mk (fun _=>?_) (fun q=>absurd (q.symm.trans (rfl)) Bool.false_ne_true)
 conv=>whnf
 refine .mk (by omega) ?_
 conv=>whnf
 refine⟨fun ha1=>?_,fun ha1=>?_⟩
 ·conv=>whnf
  exact ak.int (by rw[qO,kP,ha1]; rfl)
 conv=>whnf
 refine aF.same [1,2,10,11,12,19,20] (fun i:Nat=>[(21,.int i)]) (fun i=>i<=l.length/\aT (l.map (xA p))=aT ((l.drop i).map (xA p))) (fun i=>l.length-i) 0 rfl (by decide) rfl (fun _=>rfl) ⟨by omega,by simp⟩ ⟨⟨_,rfl,rfl⟩,trivial⟩ ?_
 conv=>whnf
 refine⟨rfl,?_⟩
 rintro i ⟨hia,hfa⟩
 conv=>whnf
 refine⟨fun ha3=>?_,fun ha3=>?_⟩
 ·have hi':i<l.length:=by simpa using ha3
  rw[DY hi'] at hfa
  conv=>whnf
  refine .mk (by simp only[Rw.rng] at *; omega) ?_
  conv=>whnf
  refine ah.pure (S.dI p (l.getD i default) hp (hl.cl i)) rfl ?_
  conv=>whnf
  refine⟨fun h4=>?_,fun h4=>?_⟩
  ·conv=>whnf
   rw[show(xA p (l.getD i default) !=0)=true from h4] at hfa
   refine ak.int ?_
   rw[qO,Ry ha1 hfa,show(xA p (l.getD i default) !=0)=true from h4]; rfl
  ·conv=>whnf
   refine .mk (by simp only[okI] at *; omega) ?_
   conv=>whnf
   rw[show(xA p (l.getD i default) !=0)=false from h4] at hfa
   refine⟨i+1,⟨by omega,hfa⟩,by omega,⟨⟨_,rfl,rfl⟩,trivial⟩,?_,rfl⟩
   repeat' (first|exact trivial|exact⟨_,rfl,rfl⟩|constructor)
 have ab6:l.length<=i:=by simpa using ha3
 rw[List.drop_eq_nil_of_le ab6] at hfa
 have hza:kP p l=0:=by rw[kP,ha1,hfa]; rfl
 conv=>whnf
 refine .mk (by simp only[okI] at *; omega) ?_
 conv=>whnf
 refine Fork.mk (fun _=>?_) (fun q=>absurd (q.symm.trans (rfl)) Bool.false_ne_true)
 conv=>whnf
 refine .mk (by omega) ?_
 conv=>whnf
 refine⟨fun hb1=>?_,fun hb1=>?_⟩
 ·conv=>whnf
  exact ak.int (by rw[qO,hza,kP,hb1]; rfl)
 conv=>whnf
 refine aF.same [1,2,10,11,12,19,20] (fun i:Nat=>[(21,.int i)]) (fun i=>i<=a.length/\aT (a.map (xA p))=aT ((a.drop i).map (xA p))) (fun i=>a.length-i) 0 rfl (by decide) rfl (fun _=>rfl) ⟨by omega,by simp⟩ ⟨⟨_,rfl,rfl⟩,trivial⟩ ?_
 conv=>whnf
 refine⟨rfl,?_⟩
 rintro j ⟨hib,hfb⟩
 conv=>whnf
 refine⟨fun hb3=>?_,fun hb3=>?_⟩
 ·have hi':j<a.length:=by simpa using hb3
  rw[DY hi'] at hfb
  conv=>whnf
  refine .mk (by simp only[Rw.rng] at *; omega) ?_
  conv=>whnf
  refine ah.pure (S.dI p (a.getD j default) hp (ha.cl j)) rfl ?_
  conv=>whnf
  refine⟨fun h4=>?_,fun h4=>?_⟩
  ·conv=>whnf
   rw[show(xA p (a.getD j default) !=0)=true from h4] at hfb
   refine ak.int ?_
   rw[qO,hza]; exact(Ry hb1 hfb).symm▸rfl
  ·conv=>whnf
   refine .mk (by simp only[okI] at *; omega) ?_
   conv=>whnf
   rw[show(xA p (a.getD j default) !=0)=false from h4] at hfb
   refine⟨j+1,⟨by omega,hfb⟩,by omega,⟨⟨_,rfl,rfl⟩,trivial⟩,?_,rfl⟩
   repeat' (first|exact trivial|exact⟨_,rfl,rfl⟩|constructor)
 have aeP:a.length<=j:=by simpa using hb3
 rw[List.drop_eq_nil_of_le aeP] at hfb
 have hzb:kP p a=0:=by rw[kP,hb1,hfb]; rfl
 conv=>whnf
 refine .mk (by simp only[okI] at *; omega) ?_
 conv=>whnf
 refine Fork.mk (fun q=>absurd (q.symm.trans (rfl)).symm Bool.false_ne_true) (fun _=>?_)
 conv=>whnf
 exact ak.int (by rw[qO,hza,hzb]; rfl)
def dN(l:List Clause)(e:Elem):Nat:=l.findIdx fun k=> !holdsB k e
def aV(l:List Clause)(e:Elem):Bool:=l.all fun k=>holdsB k e
theorem Rz{α:Type}{l:List α}{p q:α->Bool}:l.findIdx (fun x=>p x||q x)=min (l.findIdx p) (l.findIdx q):=by
 induction l with
 |nil=>rfl
 |cons x r ih =>
  rw[List.findIdx_cons,List.findIdx_cons,List.findIdx_cons]
  cases p x<;>cases q x<;>simp only[Bool.or_true,Bool.or_false,cond_true,cond_false]<;>omega
theorem RD{α:Type}{l:List α}:l.findIdx (fun _=>false)=l.length:=by
 induction l with
 |nil=>rfl
 |cons x r ih=>rw[List.findIdx_cons,ih]; rfl
theorem F9{α:Type}{l:List α}{p:α->Bool}:(l.findIdx p==l.length)=l.all fun x=> !p x:=by
 induction l with
 |nil=>rfl
 |cons x r ih =>
  rw[List.findIdx_cons,List.all_cons,List.length_cons]
  cases p x with
  |true=>simp
  |false=>rw[<- ih]; simp
def CU(l:List Clause)(es:List Elem):Nat:=es.foldl (fun m e=>min m (dN l e)) l.length
def vK(l:List Clause)(es:List Elem):Nat:=l.findIdx fun k=>es.any fun e=> !holdsB k e
theorem XO{l:List Clause}{es:List Elem}:CU l es=vK l es:=by
 have: ∀ (es:List Elem) (m:Nat),m<=l.length->es.foldl (fun m e=>min m (dN l e)) m=min m (vK l es):=by
  intro es
  induction es with
  |nil=>intro m hm; show m=min m (l.findIdx fun _=>false); rw[RD]; omega
  |cons e es ih =>
   intro m hm
   rw[List.foldl_cons,ih _ (by omega)]
   have:vK l (e::es)=min (dN l e) (vK l es):=Rz
   rw[this]; omega
 rw[CU,this es _ (Nat.le_refl _)]
 have:vK l es<=l.length:=List.findIdx_le_length
 omega
theorem XP{l:List Clause}{es:List Elem}:vK l es<=l.length:=List.findIdx_le_length
theorem Vs{l:List Clause}{es:List Elem}{i:Nat}(hi:i<es.length):CU l (es.take (i+1))=min (CU l (es.take i)) (dN l (es.getD i default)):=by
 unfold CU
 rw[List.take_add_one,List.foldl_append]; simp[hi]
def orM(n m:Nat):Int:=bif m==n then -1 else m
def stepG(fire:Elem->Option Elem)(l a:List Clause)(s:Nat×Elem)(e:Elem):Nat×Elem :=
 match fire e with
 |none=>s
 |some x=>bif aV l e&&aV a e&&(decide (dN l x<l.length)&&(decide (dN l x<s.1)||dN l x==s.1&&decide (nH e<nH s.2))) then(dN l x,e) else s
def Gf(fire:Elem->Option Elem)(l a:List Clause)(es:List Elem):Nat×Elem:=es.foldl (stepG fire l a) (l.length,⟨0,[]⟩)
theorem IC{α β:Type}{f:β->α->β}{b:β}{es:List α}{i:Nat}{d:α}(hi:i<es.length):(es.take (i+1)).foldl f b=f ((es.take i).foldl f b) (es.getD i d):=by
 rw[List.take_add_one,List.foldl_append]; simp[hi]
theorem IE{fire:Elem->Option Elem}{l a:List Clause}{s:Nat×Elem}{e:Elem}(h:s.1<=l.length):(stepG fire l a s e).1<=l.length:=by
 unfold stepG
 split
 ·exact h
 ·cases hc:(aV l e&&aV a e&&(decide (dN l _<l.length)&&(decide (dN l _<s.1)||dN l _==s.1&&decide (nH e<nH s.2)))) with
  |false=>exact h
  |true=>exact List.findIdx_le_length
theorem IG{fire:Elem->Option Elem}{l a:List Clause}{es:List Elem}:(Gf fire l a es).1<=l.length:=by
 have: ∀ (es:List Elem) (s:Nat×Elem),s.1<=l.length->(es.foldl (stepG fire l a) s).1<=l.length:=by
  intro es
  induction es with
  |nil=>intro s h; exact h
  |cons e es ih=>intro s h; exact ih _ (IE h)
 exact this es _ (Nat.le_refl _)
def BI(bad:Elem->Bool)(l:List Clause)(s:Option Elem)(e:Elem):Option Elem :=
 bif bad e&&(aV l e&&(s.isNone||decide (nH e<nH (s.getD ⟨0,[]⟩)))) then some e else s
def aaj(bad:Elem->Bool)(l:List Clause)(es:List Elem):Option Elem:=es.foldl (BI bad l) none
theorem XQ{bad:Elem->Bool}{l:List Clause}{es:List Elem}{x:Elem}(h:aaj bad l es=some x):x∈es:=by
 have: ∀ (es:List Elem) (s:Option Elem) (x:Elem),es.foldl (BI bad l) s=some x->s=some x\/x∈es:=by
  intro es
  induction es with
  |nil=>intro s x h; exact .inl h
  |cons e es ih =>
   intro s x h
   rw[List.foldl_cons] at h
   rcases ih _ x h with h|h
   ·unfold BI at h
    cases hc:(bad e&&(aV l e&&(s.isNone||decide (nH e<nH (s.getD ⟨0,[]⟩))))) with
    |false=>rw[hc] at h; exact .inl h
    |true=>rw[hc] at h; cases h; exact .inr (by simp)
   ·exact .inr (List.mem_cons_of_mem _ h)
 rcases this es none x h with h|h
 ·cases h
 ·exact h
theorem Vt{l a:List Clause}{e:Elem}:aV (l++a) e=(aV l e&&aV a e):=by simp[aV]
theorem iV{l:List Clause}{e:Elem}:(fE l e).length=l.length:=by simp[fE]
theorem tC{l a:List Clause}{e:Elem}:(fE (l++a) e).take l.length=fE l e:=by
 simp[fE]
theorem Uf{l:List Clause}{e:Elem}:(fE l e).all id=aV l e:=by
 simp[fE,aV,List.all_map,Function.comp_def]
theorem Vu{l:List Clause}{e:Elem}:(fE l e).findIdx (fun b=> !b)=dN l e:=by
 unfold fE dN
 induction l with
 |nil=>rfl
 |cons k l ih=>rw[List.map_cons,List.findIdx_cons,List.findIdx_cons,ih]
theorem II{l a:List Clause}:bI (l++a)=max (bI l) (bI a):=by
 have: ∀ (l:List Clause) (r:Int),0<=r->l.foldl (fun r k=>max r (nC k)) r=max r (bI l):=by
  intro l
  induction l with
  |nil=>intro r hr; show r=max r 0; omega
  |cons x l ih =>
   intro r hr
   have h0:0<=nC x:=by unfold nC; split<;>omega
   show l.foldl _ (max r (nC x))=max r (l.foldl _ (max 0 (nC x)))
   rw[ih _ (by omega),ih (max 0 (nC x)) (by omega)]; omega
 show(l++a).foldl _ 0=_
 rw[List.foldl_append]; exact this a (bI l) qL
theorem S.CV(l:List Int)(s:Int)(f:Bool)(hl:l.length<2^40):aj Tryz.prog 114 [.row 0 f (.ints l),.int s] (.bool (GZ l s)):=by
 refine aj.of Bd.CV (by simp) rfl rfl ?_
 conv=>whnf
 refine aF.same [0,1] (fun i:Nat=>[(5,.int i)]) (fun i=>i<=l.length/\(l.take i).any (fun x=>s==x)=false) (fun i=>l.length-i) 0 rfl (by decide) rfl (fun _=>rfl) ⟨by omega,by simp⟩ ⟨⟨_,rfl,rfl⟩,trivial⟩ ?_
 conv=>whnf
 refine⟨rfl,?_⟩
 rintro i ⟨hi,hall⟩
 conv=>whnf
 refine⟨fun h3=>?_,fun h3=>?_⟩
 ·have hi':i<l.length:=by simpa using h3
  conv=>whnf
  refine .mk (by simp only[Rw.rng] at *; first|omega|(simp_all; done)|(simp_all; omega)) ?_
  conv=>whnf
  refine⟨fun h4=>?_,fun h4=>?_⟩
  ·have h4':(s==l.getD i 0)=true:=by rw[show(s==l.getD i 0)=(l.getD i 0==s) from Bool.beq_comm]; exact h4
   conv=>whnf
   exact ak.bool (fQ (d:=0) hi' h4')
  ·have h4':(s==l.getD i 0)=false:=by rw[show(s==l.getD i 0)=(l.getD i 0==s) from Bool.beq_comm]; exact h4
   conv=>whnf
   refine .mk (by simp only[okI] at *; first|omega|(simp_all; done)|(simp_all; omega)) ?_
   conv=>whnf
   refine⟨i+1,⟨by omega,?_⟩,by omega,⟨⟨_,rfl,rfl⟩,trivial⟩,?_,rfl⟩
   ·rw[jl (d:=0) hi' hall]; exact h4'
   ·repeat' (first|exact trivial|exact⟨_,rfl,rfl⟩|constructor)
 ·have hi':l.length<=i:=by simpa using h3
  rw[List.take_of_length_le hi'] at hall
  conv=>whnf
  exact ak.bool hall
theorem RF{l c:List Int}{i:Nat}(hi:i<l.length):rV (l.take (i+1)) c=rV (l.take i) c+c.getD (l.getD i 0).toNat 0:=by
 unfold rV
 rw[List.take_add_one,List.map_append,List.sum_append]; simp[hi]
theorem getM{α:Type}{l:List α}{i:Nat}{d:α}(hi:i<l.length):l.getD i d∈l:=by
 rw[show l.getD i d=l[i] by simp[hi]]; exact List.getElem_mem hi
theorem yI.g{c:List Int}(h:yI c)(i:Nat):0<=c.getD i 0/\c.getD i 0<=1048576:=by
 by_cases hi:i<c.length
 ·exact h.get hi
 ·rw[show c.getD i 0=0 by simp[List.getD_eq_getElem?_getD,List.getElem?_eq_none (by omega:c.length<=i)]]; omega
theorem XR{l c:List Int}(h:yI c):0<=rV l c/\rV l c<=1048576*l.length:=by
 unfold rV
 induction l with
 |nil=>simp
 |cons x r ih =>
  have:=h.g x.toNat
  simp only[List.map_cons,List.sum_cons,List.length_cons]; omega
theorem XT(l:List Int)(x:Int):0<=yK l x/\yK l x<=1:=by
 unfold yK; cases l.any fun y=>x==y<;>simp
theorem S.DZ(c l:List Int)(f g:Bool)(hc:yI c)(_hn:c.length<2^30)(hl:l.length<2^30)(hp:oM c.length l):aj Tryz.prog 115 [.row 0 f (.ints c),.row 0 g (.ints l)] (.int (rV l c)):=by
 refine aj.of Bd.DZ (by simp) rfl rfl ?_
 conv=>whnf
 refine aF.same [0,1] (fun i:Nat=>[(6,.int i),(5,.int (rV (l.take i) c))]) (fun i=>i<=l.length) (fun i=>l.length-i) 0 rfl (by decide) rfl (fun _=>rfl) (Nat.zero_le _) ⟨⟨_,rfl,rfl⟩,⟨_,rfl,rfl⟩,trivial⟩ ?_
 conv=>whnf
 refine⟨rfl,?_⟩
 rintro i hi
 have hb:=XR (l:=l.take i) hc
 have hll:(l.take i).length<=l.length:=by rw[List.length_take]; omega
 conv=>whnf
 refine⟨fun h3=>?_,fun h3=>?_⟩
 ·have hi':i<l.length:=by simpa using h3
  have hs:=RF (c:=c) hi'
  have hg:=hc.g (l.getD i 0).toNat
  obtain⟨p1,p2⟩:=hp _ (getM (d:=0) hi')
  conv=>whnf
  repeat(refine VC.mk (by first|(simp only[Rw.rng,Int.toNat_natCast]; omega)|(simp only[okI,Int.toNat_natCast] at *; omega)) ?_; conv=>whnf)
  refine⟨i+1,by omega,by omega,⟨⟨_,rfl,rfl⟩,⟨_,rfl,?_⟩,trivial⟩,?_,rfl⟩
  ·rw[hs]; rfl
  ·repeat' (first|exact trivial|exact⟨_,rfl,rfl⟩|constructor)
 ·have hi':l.length<=i:=by simpa using h3
  rw[List.take_of_length_le hi']
  conv=>whnf
  exact ak.int rfl
theorem S.yO(l:List Int)(s:Int)(f:Bool)(hl:l.length<2^40):aj Tryz.prog 116 [.row 0 f (.ints l),.int s] (.int (yK l s)):=by
 refine aj.of Bd.yO (by simp) rfl rfl ?_
 conv=>whnf
 refine ah.pure (S.CV l s f hl) rfl ?_
 conv=>whnf
 refine⟨fun h1=>?_,fun h1=>?_⟩
 ·conv=>whnf
  exact ak.int (by rw[yK,show(l.any fun y=>s==y)=true from h1]; rfl)
 ·conv=>whnf
  exact ak.int (by rw[yK,show(l.any fun y=>s==y)=false from h1]; rfl)
structure Vw(k:Clause)(e:Elem):Prop where
 cl: ∃ vals,CS e.counts.length vals k
 ok:yI e.counts
 len:e.counts.length<=6
theorem F8.len{n:Nat}: ∀ {l:List Int},F8 n l->l.length<=n:=by
 intro l h
 have: ∀ (l:List Int) (b:Int),(∀ x∈l,b<=x/\x<n)->l.Pairwise (· < ·)->(l.length:Int)<=n-b\/l=[]:=by
  intro l
  induction l with
  |nil=>intro b _ _; exact .inr rfl
  |cons x r ih =>
   intro b hb hp
   have h1:=hb x (by simp)
   rw[List.pairwise_cons] at hp
   rcases ih (x+1) (fun y hy=>⟨by have:=hp.1 y hy; omega,(hb y (List.mem_cons_of_mem _ hy)).2⟩) hp.2 with h2|h2
   ·left; rw[List.length_cons]; omega
   ·left; subst h2; simp only[List.length_cons,List.length_nil]; omega
 rcases this l 0 h.1 h.2 with h2|h2
 ·omega
 ·subst h2; simp
theorem F8.place{n:Nat}{l:List Int}(h:F8 n l):oM n l:=h.1
theorem S.uM(k:Clause)(e:Elem)(h:Vw k e)(hk:k.values.length<2^30):aj Tryz.prog 75 [.dat (.clause k),.dat (.elem e)] (.bool (MV k e)):=by
 obtain⟨⟨vals,hcl⟩,hok,hln⟩:=h
 have hS:=hcl.some.len
 have hb:=XR (l:=k.some) hok
 have h2:=hcl.two
 refine aj.of Bd.uM (by simp) rfl rfl ?_
 conv=>whnf
 repeat(refine VC.mk (by first|exact id|exact fun h=>⟨h,h⟩) ?_; conv=>whnf)
 refine ah.fG (fun _=>S.CV k.values e.value false (by omega)) rfl ?_
 conv=>whnf
 repeat(refine VC.mk id ?_; conv=>whnf)
 refine⟨fun h1=>?_,fun h1=>?_⟩
 ·conv=>whnf
  exact ak.bool (by rw[MV,show KT k e.value=true from h1]; rfl)
 have hfree:KT k e.value=false:=h1
 conv=>whnf
 refine ah.pure (S.DZ e.counts k.some false false hok (by omega) (by omega) hcl.some.place) rfl ?_
 conv=>whnf
 refine⟨fun h3=>?_,fun h3=>?_⟩
 ·conv=>whnf
  exact ak.bool (by rw[MV,hfree,show((k.each.length:Int)==0)=true from h3]; rfl)
 have hne:0<k.each.length:=by
  have:(k.each.length:Int)≠0:=by simpa using h3
  omega
 have e0:k.each.getD 0 []∈k.each:=getM hne
 have hset:=(hcl.each _ e0).1
 have hl0:=hset.len
 have href:MV k e=(k.each.getD 0 []).all (zl k e.counts):=by rw[MV,hfree,show((k.each.length:Int)==0)=false from h3]; rfl
 conv=>whnf
 refine aF.same [2,3,5] (fun i:Nat=>[(6,.int i)]) (fun i=>i<=(k.each.getD 0 []).length/\((k.each.getD 0 []).take i).all (zl k e.counts)=true) (fun i=>(k.each.getD 0 []).length-i) 0 rfl (by decide) rfl (fun _=>rfl) ⟨by omega,by simp⟩ ⟨⟨_,rfl,rfl⟩,trivial⟩ ?_
 conv=>whnf
 refine⟨rfl,?_⟩
 rintro i ⟨hi,hall⟩
 conv=>whnf
 refine .mk (by simp only[Rw.rng]; omega) ?_
 conv=>whnf
 refine⟨fun h4=>?_,fun h4=>?_⟩
 ·have hi':i<(k.each.getD 0 []).length:=by simpa using h4
  obtain⟨p1,p2⟩:=hset.1 _ (getM (d:=0) hi')
  have ho:=XT k.some ((k.each.getD 0 []).getD i 0)
  have hnext:=mO (d:=0) hi' hall
  have Ug:=fun h=>nN (p:=zl k e.counts) (d:=0) hi' h
  conv=>whnf
  repeat(refine VC.mk (by first|(first|(simp only[Rw.rng,Int.toNat_natCast]; omega)|(simp only[Rw.rng]; omega))|(simp only[Rw.rng] at *; first|omega|(simp_all; done)|(simp_all; omega))) ?_; conv=>whnf)
  refine⟨fun h5=>?_,fun h5=>?_⟩
  ·have hz:(e.counts.getD ((k.each.getD 0 []).getD i 0).toNat 0==0)=true:=h5
   conv=>whnf
   refine .mk (by simp only[okI] at *; first|omega|(simp_all; done)|(simp_all; omega)) ?_
   conv=>whnf
   refine⟨i+1,⟨by omega,?_⟩,by omega,⟨⟨_,rfl,rfl⟩,trivial⟩,?_,rfl⟩
   ·rw[hnext,zl,hz]; rfl
   ·repeat' (first|exact trivial|exact⟨_,rfl,rfl⟩|constructor)
  have hz:(e.counts.getD ((k.each.getD 0 []).getD i 0).toNat 0==0)=false:=h5
  conv=>whnf
  repeat(refine VC.mk (by first|exact id|exact fun h=>⟨h,h⟩) ?_; conv=>whnf)
  refine ah.fG (fun _=>S.yO k.some ((k.each.getD 0 []).getD i 0) false (by omega)) rfl ?_
  conv=>whnf
  repeat(refine VC.mk (by first|exact id|(intro h; (repeat' apply And.intro)<;>first|exact h|omega|(simp only[Rw.lM]; omega)|(simp only[Rw.rng]; omega))) ?_; conv=>whnf)
  conv=>whnf
  refine⟨fun h6=>?_,fun h6=>?_⟩
  ·have h6':((k.each.length:Int)==1&&MS k e.counts ((k.each.getD 0 []).getD i 0))=true:=h6
   conv=>whnf
   exact ak.bool (by rw[href]; exact Ug (by rw[zl,hz,h6']; rfl))
  have h6':((k.each.length:Int)==1&&MS k e.counts ((k.each.getD 0 []).getD i 0))=false:=h6
  conv=>whnf
  refine aF.same [2,3,5,6,7] (fun j:Nat=>[(8,.int j)]) (fun j=>j<=(k.each.getD 1 []).length/\((k.each.getD 1 []).take j).any (EZ k e.counts ((k.each.getD 0 []).getD i 0))=false) (fun j=>(k.each.getD 1 []).length-j) 0 rfl (by decide) rfl (fun _=>rfl) ⟨by omega,by simp⟩ ⟨⟨_,rfl,rfl⟩,trivial⟩ ?_
  conv=>whnf
  refine⟨rfl,?_⟩
  rintro j ⟨hj,hany⟩
  conv=>whnf
  repeat(refine VC.mk (by first|exact id|exact fun h=>⟨h,h⟩|(simp only[Rw.rng] at *; first|omega|(simp_all; done)|(simp_all; omega))) ?_; conv=>whnf)
  refine⟨fun h7=>?_,fun h7=>?_⟩
  ·have ZR:(decide ((k.each.length:Int)>1)&&decide ((j:Int)<(k.each.getD 1 []).length))=true:=h7
   rw[Bool.and_eq_true,decide_eq_true_eq,decide_eq_true_eq] at ZR
   obtain⟨g1,g2⟩:=ZR
   have hj':j<(k.each.getD 1 []).length:=by omega
   have e1:k.each.getD 1 []∈k.each:=getM (by omega)
   obtain⟨p3,p4⟩:=(hcl.each _ e1).1.1 _ (getM (d:=0) hj')
   have hn2:=jl (d:=0) hj' hany
   have hl1:=(hcl.each _ e1).1.len
   have ho2:=XT k.some ((k.each.getD 1 []).getD j 0)
   conv=>whnf
   repeat(refine VC.mk (by first|(first|(simp only[Rw.rng,Int.toNat_natCast]; omega)|(simp only[Rw.rng]; omega))|exact fun h=>h|exact fun h=>⟨h,h⟩|(intro h; rw[h]; rfl)|(simp only[Rw.rng] at *; first|omega|(simp_all; done)|(simp_all; omega))) ?_; conv=>whnf)
   refine ah.fG (fun _=>S.yO k.some ((k.each.getD 0 []).getD i 0) false (by omega)) rfl ?_
   conv=>whnf
   repeat(refine VC.mk (by first|exact fun h=>⟨h,h⟩|(intro h; (repeat' apply And.intro)<;>first|exact h|omega|(simp only[Rw.lM]; omega)|(simp only[Rw.rng]; omega))) ?_; conv=>whnf)
   conv=>whnf
   refine ah.fG (fun _=>S.yO k.some ((k.each.getD 1 []).getD j 0) false (by omega)) rfl ?_
   conv=>whnf
   repeat(refine VC.mk (by first|exact id|(intro h; (repeat' apply And.intro)<;>first|exact h|omega|(simp only[Rw.lM]; omega)|(simp only[Rw.rng]; omega))) ?_; conv=>whnf)
   conv=>whnf
   refine⟨fun h8=>?_,fun h8=>?_⟩
   ·have h8':EZ k e.counts ((k.each.getD 0 []).getD i 0) ((k.each.getD 1 []).getD j 0)=true:=h8
    conv=>whnf
    refine ak.bool ?_
    rw[href]
    refine Ug ?_
    rw[zl,hz,h6',fQ (d:=0) hj' h8',decide_eq_true g1]; rfl
   ·have h8':EZ k e.counts ((k.each.getD 0 []).getD i 0) ((k.each.getD 1 []).getD j 0)=false:=h8
    conv=>whnf
    refine .mk (by simp only[okI] at *; first|omega|(simp_all; done)|(simp_all; omega)) ?_
    conv=>whnf
    refine⟨j+1,⟨by omega,?_⟩,by omega,⟨⟨_,rfl,rfl⟩,trivial⟩,?_,rfl⟩
    ·rw[hn2]; exact h8'
    ·repeat' (first|exact trivial|exact⟨_,rfl,rfl⟩|constructor)
  ·have ZR:(decide ((k.each.length:Int)>1)&&decide ((j:Int)<(k.each.getD 1 []).length))=false:=h7
   have hno:(decide ((k.each.length:Int)>1)&&(k.each.getD 1 []).any (EZ k e.counts ((k.each.getD 0 []).getD i 0)))=false:=by
    cases hd:decide ((k.each.length:Int)>1) with
    |false=>rfl
    |true =>
     rw[hd,Bool.true_and,decide_eq_false_iff_not] at ZR
     rw[List.take_of_length_le (by omega)] at hany
     rw[hany]; rfl
   conv=>whnf
   refine .mk (by simp only[okI] at *; first|omega|(simp_all; done)|(simp_all; omega)) ?_
   conv=>whnf
   refine⟨i+1,⟨by omega,?_⟩,by omega,⟨⟨_,rfl,rfl⟩,trivial⟩,?_,rfl⟩
   ·rw[hnext,zl,hz,h6',hno]; rfl
   ·repeat' (first|exact trivial|exact⟨_,rfl,rfl⟩|constructor)
 ·have hi':(k.each.getD 0 []).length<=i:=by simpa using h4
  rw[List.take_of_length_le hi'] at hall
  conv=>whnf
  exact ak.bool (by rw[href,hall])
theorem S.rX(l:List Clause)(e:Elem)(f:Bool)(hl:l.length<2^30)(h: ∀ i,i<l.length->Vw (l.getD i default) e/\(l.getD i default).values.length<2^30):aj Tryz.prog 107 [.row 4 f (.clauses l),.dat (.elem e)] (.bool (aV l e)):=by
 refine aj.of Bd.rX (by simp) rfl rfl ?_
 conv=>whnf
 refine aF.same [0,3] (fun i:Nat=>[(5,.int i)]) (fun i=>i<=l.length/\(l.take i).all (fun k=>holdsB k e)=true) (fun i=>l.length-i) 0 rfl (by decide) rfl (fun _=>rfl) ⟨by omega,by simp⟩ ⟨⟨_,rfl,rfl⟩,trivial⟩ ?_
 conv=>whnf
 refine⟨rfl,?_⟩
 rintro i ⟨hi,hall⟩
 conv=>whnf
 refine⟨fun h3=>?_,fun h3=>?_⟩
 ·have hi':i<l.length:=by simpa using h3
  obtain⟨hf,hv⟩:=h i hi'
  have href:MV (l.getD i default) e=holdsB (l.getD i default) e:=(hf.cl.elim fun _ c=>Uc c fun x hx=>(hf.ok x hx).1)
  conv=>whnf
  refine .mk (by simp only[Rw.rng] at *; first|omega|(simp_all; done)|(simp_all; omega)) ?_
  conv=>whnf
  refine ah.pure (S.uM (l.getD i default) e hf hv) rfl ?_
  conv=>whnf
  rw[href]
  refine⟨fun h4=>?_,fun h4=>?_⟩
  ·conv=>whnf
   exact ak.bool (nN (p:=fun k=>holdsB k e) (d:=default) hi' (by simpa using h4))
  ·conv=>whnf
   refine .mk (by simp only[okI] at *; first|omega|(simp_all; done)|(simp_all; omega)) ?_
   conv=>whnf
   refine⟨i+1,⟨by omega,?_⟩,by omega,⟨⟨_,rfl,rfl⟩,trivial⟩,?_,rfl⟩
   ·rw[mO (d:=default) hi' hall]; simpa using h4
   ·repeat' (first|exact trivial|exact⟨_,rfl,rfl⟩|constructor)
 ·have hi':l.length<=i:=by simpa using h3
  rw[List.take_of_length_le hi'] at hall
  conv=>whnf
  exact ak.bool hall
def fF(starts:List Int)(e:Elem):Bool:= !(EU e.counts starts)&&(e.value==0)
theorem S.qP(starts:List Int)(e:Elem)(f:Bool)(hs:starts.length<2^40)(he:e.counts.length<2^40):aj Tryz.prog 102 [.row 0 f (.ints starts),.dat (.elem e)] (.bool (fF starts e)):=by
 refine aj.of Bd.qP (by simp) rfl rfl ?_
 conv=>whnf
 refine aF.same [0,3] (fun i:Nat=>[(5,.int i)]) (fun i=>i<=e.counts.length/\(List.range i).any (fun i=>decide (e.counts.getD i 0>0)&& !(GZ starts i))=false) (fun i=>e.counts.length-i) 0 rfl (by decide) rfl (fun _=>rfl) ⟨by omega,by simp⟩ ⟨⟨_,rfl,rfl⟩,trivial⟩ ?_
 conv=>whnf
 refine⟨rfl,?_⟩
 rintro i ⟨hi,hall⟩
 conv=>whnf
 refine⟨fun h3=>?_,fun h3=>?_⟩
 ·have hi':i<e.counts.length:=by simpa using h3
  conv=>whnf
  repeat(refine VC.mk (by first|exact fun h=>⟨h,h⟩|(simp only[Rw.rng] at *; first|omega|(simp_all; done)|(simp_all; omega))) ?_; conv=>whnf)
  refine ah.fG (fun _=>S.CV starts i f hs) rfl ?_
  conv=>whnf
  repeat(refine VC.mk id ?_; conv=>whnf)
  refine⟨fun h4=>?_,fun h4=>?_⟩
  ·conv=>whnf
   refine ak.bool ?_
   rw[fF,show EU e.counts starts=true from List.any_eq_true.2 ⟨i,List.mem_range.2 hi',h4⟩]; rfl
  ·conv=>whnf
   refine .mk (by simp only[okI] at *; first|omega|(simp_all; done)|(simp_all; omega)) ?_
   conv=>whnf
   refine⟨i+1,⟨by omega,?_⟩,by omega,⟨⟨_,rfl,rfl⟩,trivial⟩,?_,rfl⟩
   ·rw[List.range_succ,List.any_append,hall]
    show(false||((decide (e.counts.getD i 0>0)&& !(GZ starts i))||false))=false
    rw[show(decide (e.counts.getD i 0>0)&& !(GZ starts i))=false from h4]; rfl
   ·repeat' (first|exact trivial|exact⟨_,rfl,rfl⟩|constructor)
 ·have hi':i=e.counts.length:=by have:e.counts.length<=i:=(by simpa using h3); omega
  subst hi'
  conv=>whnf
  refine ak.bool ?_
  rw[fF,show EU e.counts starts=false from hall]; rfl
abbrev pU(l:List (List Int)):OV:=.row 24 0 (.lK l) []
theorem Vx(l:List (List Int)):T.dD (l.map Go.Ab.ints)=true:=by
 rw[gu]; intro t ht; obtain⟨x,_,rfl⟩:=List.mem_map.1 ht; rfl
theorem XU{h:Hz}{j:Nat}{Z:Nat->Prop}{l:List (List Int)}(hz:Z j)(q:h.get j=some (pU l)):T.sub Z h.au (V.row 0 false (.lK l)).aI (V.own j).aI:=by
 show T.sub Z h.au (.sl 0 false (l.map Go.Ab.ints)) (.own j)
 simp only[T.sub]
 refine⟨trivial,hz,Vx l,by decide,24,?_⟩
 have:=aJ q; simpa [OV.aH,Rw.aW,V.aW] using this
theorem ak.adO{h:Hz}{j:Nat}{l:List (List Int)}(q:h.get j=some (pU l)):ak (.row 0 false (.lK l)) (.own j) h:=⟨XU trivial q⟩
theorem Ld{Z:Nat->Prop}{h:Hz}{i j:Nat}{r:Rw}{l:List (List Int)}{c:List Int}(q:h.get i=some (.row 24 0 r [.own j]))(hr:r.aW=l.map Go.Ab.ints)(hi: ¬ Z i)(hz:Z j)(qj:h.get j=some (jm c)) :
  ∃ o',h.get i=some o'/\ ¬ Z i/\o'.aH.ty=(pU (l++[c])).aH.ty/\o'.aH.k=(pU (l++[c])).aH.k/\T.dG Z h.au (pU (l++[c])).aH.l o'.aH.l/\(pU (l++[c])).aH.l.map T.kd=o'.aH.l.map T.kd/\(pU (l++[c])).aH.l.map iq=o'.aH.l.map iq:=by
 have e1:(pU (l++[c])).aH.l=r.aW++[Go.Ab.ints c]:=by rw[hr]; simp[OV.aH,Rw.aW,V.aW]
 refine⟨_,q,hi,rfl,rfl,?_,?_,?_⟩
 ·rw[e1]
  exact zS (cO _) ⟨DV hz qj,trivial⟩
 ·rw[e1]; show _=List.map T.kd (r.aW++[.own j])
  rw[List.map_append,List.map_append]; rfl
 ·rw[e1]; show _=List.map iq (r.aW++[.own j])
  rw[List.map_append,List.map_append]; rfl
abbrev lT(l:List Elem):OV:=.row 41 3 (.elems l) []
theorem Uh{h:Hz}{j:Nat}{l:List Elem}{Z:Nat->Prop}(hz:Z j)(q:h.get j=some (lT l)):T.sub Z h.au (V.row 3 false (.elems l)).aI (V.own j).aI:=by
 show T.sub Z h.au (.sl 3 false (l.map tq)) (.own j)
 simp only[T.sub]
 refine⟨trivial,hz,CW l,by decide,41,?_⟩
 have:=aJ q; simpa [OV.aH,Rw.aW,V.aW] using this
theorem ak.adP{h:Hz}{j:Nat}{l:List Elem}(q:h.get j=some (lT l)):ak (.row 3 false (.elems l)) (.own j) h:=⟨Uh trivial q⟩
theorem ab7{Z:Nat->Prop}{h:Hz}{j:Nat}{v:Int}{l:List Int}(hz:Z j)(q:h.get j=some (jm l)):T.sub Z h.au (tq ⟨v,l⟩) (.agg [.int v,.own j]):=by
 have:=DV hz q
 show T.sub Z h.au (.agg [.int v,.sl 0 false (l.map T.int)]) (.agg [.int v,.own j])
 replace this:T.sub Z h.au (.sl 0 false (l.map T.int)) (.own j):=this
 simp only[T.sub] at this
 simp only[T.sub,T.dG]
 exact⟨trivial,this,trivial⟩
theorem IJ{Z:Nat->Prop}{h:Hz}{i j:Nat}{l:List Elem}{e:Elem}(q:h.get i=some (.row 41 3 (.elems l) [.agg [.int e.value,.own j]]))(hi: ¬ Z i)(hz:Z j)(qj:h.get j=some (jm e.counts)) :
  ∃ o',h.get i=some o'/\ ¬ Z i/\o'.aH.ty=(lT (l++[e])).aH.ty/\o'.aH.k=(lT (l++[e])).aH.k/\T.dG Z h.au (lT (l++[e])).aH.l o'.aH.l/\(lT (l++[e])).aH.l.map T.kd=o'.aH.l.map T.kd/\(lT (l++[e])).aH.l.map iq=o'.aH.l.map iq:=by
 have e1:(lT (l++[e])).aH.l=l.map tq++[tq e]:=by simp[OV.aH,Rw.aW,V.aW]
 refine⟨_,q,hi,rfl,rfl,?_,?_,?_⟩
 ·rw[e1]
  exact zS (cO _) ⟨ab7 hz qj,trivial⟩
 ·rw[e1]; show _=List.map T.kd (l.map tq++[.agg [.int e.value,.own j]])
  rw[List.map_append,List.map_append]; rfl
 ·rw[e1]; show _=List.map iq (l.map tq++[.agg [.int e.value,.own j]])
  rw[List.map_append,List.map_append]; rfl
theorem qQ{b n:Nat}(hb:b<=9)(hn:n<=6):b^n<=531441:=Nat.le_trans (Nat.pow_le_pow_left hb n) (Nat.le_trans (Nat.pow_le_pow_right (by decide) hn) (by decide))
theorem Vy{b n j:Nat}(hb0:0<b)(hb:b<=9)(hn:n<=6):(jB b n j).length<=531441:=Nat.le_trans (La hb0) (qQ hb hn)
theorem Vz{b n j k:Nat}(hb0:0<b)(hb:b<=9)(hn:n<=6)(hk:k<=9):(vI b n j k).length<=9*531441:=Nat.le_trans (Vp hb0) (Nat.mul_le_mul hk (qQ hb hn))
set_option maxHeartbeats 1000000 in
theorem S.XV(n m:Nat)(hn0:0<n)(EW:n<=6)(hm8:m<=8):aj Tryz.prog 103 [.int n,.int m] (.row 0 false (.lK (allB (m+1) n))):=by
 have hb0:0<m+1:=by omega
 refine aj.of Bd.MX (by simp) rfl rfl ?_
 conv=>whnf
 have hm:=xC (n:=n) hn0
 rw[hm]
 conv=>whnf
 repeat(refine VC.mk (by first|(omega)|(simp only[okI] at *; omega)) ?_; conv=>whnf)
 refine aF.OU 1 [0,1] (fun j:Nat=>[(6,.int ((j:Int)-1)),(5,.own 0)]) (fun j=>[(0,pU (jB (m+1) n j))]) (fun j=>j<=n) (fun j=>j) n [3] [(3,some (pU ([]++[List.replicate n 0])))] rfl (by decide) (fun _=>rfl) (Nat.le_refl _) ?_ ?_ ?_ ?_
 ·exact⟨⟨_,rfl,.eq rfl⟩,⟨_,rfl,.eq rfl⟩,trivial⟩
 ·exact⟨fun i=>i=2,Ld (Z:=fun i=>i=2) (i:=3) (j:=2) rfl rfl (by decide) rfl rfl,trivial⟩
 ·exact⟨okF rfl nofun rfl rfl rfl ⟨rfl,rfl⟩ (by simp[jB,fD]),trivial⟩
 conv=>whnf
 refine⟨⟨⟨_,rfl,.eq rfl⟩,⟨_,rfl,.eq rfl⟩,trivial⟩,rfl,?_⟩
 rintro j hj
 conv=>whnf
 refine⟨fun h3=>?_,fun h3=>?_⟩
 ·obtain⟨j,rfl⟩: ∃ i,j=i+1:=⟨j-1,by have:=of_decide_eq_true h3; omega⟩
  have ej:(((j+1:Nat):Int)-1)=(j:Int):=by omega
  rw[ej]
  conv=>whnf
  refine aF.nil 7 24 0 (by rfl) rfl rfl rfl ?_
  refine aF.objs 2 [0,1,5,6] (fun k:Nat=>[(8,.int k),(7,.own 1)]) (fun k=>[(0,pU (jB (m+1) n (j+1))),(1,pU (vI (m+1) n j k))]) (fun k=>k<=m+1) (fun k=>m+1-k) 0 [0,5] rfl (by decide) (fun _=>rfl) (Nat.zero_le _) ?_ ?_ ?_
  ·exact⟨⟨_,rfl,.eq rfl⟩,⟨_,rfl,.eq rfl⟩,trivial⟩
  ·exact⟨⟨rfl,nofun,rfl,rfl,rfl,_,rfl,rfl,rfl,bn.of_eq rfl⟩,⟨rfl,nofun,rfl,rfl,rfl,_,rfl,rfl,rfl,bn.of_eq rfl⟩,trivial⟩
  conv=>whnf
  refine⟨⟨⟨_,rfl,.eq rfl⟩,⟨_,rfl,.eq rfl⟩,⟨_,rfl,.eq rfl⟩,⟨_,rfl,.eq rfl⟩,trivial⟩,rfl,?_⟩
  rintro k hk
  have hkl:=@Vz (m+1) n j k hb0 (by omega) EW (by omega)
  have hol:=@Vy (m+1) n (j+1) hb0 (by omega) EW
  conv=>whnf
  refine⟨fun h4=>?_,fun h4=>?_⟩
  ·have hk3:k<=m:=by have:=of_decide_eq_true h4; omega
   conv=>whnf
   refine aF.OU 2 [0,1,5,6,8] (fun i:Nat=>[(9,.int i),(7,.own 1)]) (fun i=>[(0,pU (jB (m+1) n (j+1))),(1,pU (vI (m+1) n j k++((jB (m+1) n (j+1)).take i).map fun c=>c.set j (k:Int)))]) (fun i=>i<=(jB (m+1) n (j+1)).length) (fun i=>(jB (m+1) n (j+1)).length-i) 0 [0,1] [(0,some (pU (jB (m+1) n (j+1)))),(1,some (pU (vI (m+1) n j k)))] rfl (by decide) (fun _=>rfl) (Nat.zero_le _) ?_ ?_ ?_ ?_
   ·exact⟨⟨_,rfl,.eq rfl⟩,⟨_,rfl,.eq rfl⟩,trivial⟩
   ·exact⟨fun _=>False,dW (Z:=fun _=>False) rfl (fun q=>q),dW (Z:=fun _=>False) rfl (fun q=>q),trivial⟩
   ·exact⟨okF rfl nofun rfl rfl rfl ⟨rfl,rfl⟩ rfl,okF rfl nofun rfl rfl rfl ⟨rfl,rfl⟩ (by simp),trivial⟩
   conv=>whnf
   refine⟨⟨⟨_,rfl,.eq rfl⟩,⟨_,rfl,.eq rfl⟩,⟨_,rfl,.eq rfl⟩,⟨_,rfl,.eq rfl⟩,⟨_,rfl,.eq rfl⟩,trivial⟩,rfl,?_⟩
   rintro i hi
   have hal:(vI (m+1) n j k++((jB (m+1) n (j+1)).take i).map fun c=>c.set j (k:Int)).length<=10*531441:=by
    rw[List.length_append,List.length_map,List.length_take]; omega
   conv=>whnf
   refine⟨fun h5=>?_,fun h5=>?_⟩
   ·have hi':i<(jB (m+1) n (j+1)).length:=by simpa using h5
    have hcl:((jB (m+1) n (j+1)).getD i []).length=n:=Vr hj (getM hi')
    conv=>whnf
    repeat(refine VC.mk (by first|(first|(simp only[kU,kD,Rw.len,Int.toNat_natCast,hcl]; omega)|(simp only[Rw.rng,Int.toNat_natCast,hcl]; omega)|(show((vI (m+1) n j k++((jB (m+1) n (j+1)).take i).map fun c=>c.set j (k:Int)).length+(0+1))*24<=140737488355328/\(vI (m+1) n j k++((jB (m+1) n (j+1)).take i).map fun c=>c.set j (k:Int)).length+(0+1)<=1152921504606846976; omega))|(simp only[okI] at *; omega)) ?_; conv=>whnf)
    refine⟨[(0,some (pU (jB (m+1) n (j+1)))),(21,some (pU ((vI (m+1) n j k++((jB (m+1) n (j+1)).take i).map fun c=>c.set j (k:Int))++[((jB (m+1) n (j+1)).getD i []).set j (k:Int)])))],i+1,[0,21],⟨fun i=>i=11,dW (Z:=fun i=>i=11) (i:=0) rfl (by decide),Ld (Z:=fun i=>i=11) (i:=21) (j:=11) rfl rfl (by decide) rfl rfl,trivial⟩,by omega,by omega,⟨⟨_,rfl,.eq rfl⟩,⟨_,rfl,.eq rfl⟩,trivial⟩,⟨⟨_,rfl,.eq rfl⟩,⟨_,rfl,.eq rfl⟩,⟨_,rfl,.eq rfl⟩,⟨_,rfl,.eq rfl⟩,⟨_,rfl,.eq rfl⟩,trivial⟩,okF rfl nofun rfl rfl rfl ⟨rfl,rfl⟩ rfl,okF rfl nofun rfl rfl rfl ⟨rfl,rfl⟩ ?_,trivial⟩
    have ht:(jB (m+1) n (j+1)).take (i+1)=(jB (m+1) n (j+1)).take i++[(jB (m+1) n (j+1)).getD i []]:=by rw[List.take_add_one]; simp[hi']
    rw[ht,List.map_append,<- List.append_assoc]; rfl
   ·have hi':i=(jB (m+1) n (j+1)).length:=by
     have: ¬ ((i:Int)<((jB (m+1) n (j+1)).length:Int)):=of_decide_eq_false h5
     omega
    subst hi'
    rw[List.take_length,<- Iz]
    conv=>whnf
    refine .mk (by first|(simp only[okI]; omega)|omega) ?_
    conv=>whnf
    refine⟨k+1,[0,1],by omega,by omega,⟨⟨_,rfl,.eq rfl⟩,⟨_,rfl,.eq rfl⟩,trivial⟩,⟨⟨_,rfl,.eq rfl⟩,⟨_,rfl,.eq rfl⟩,⟨_,rfl,.eq rfl⟩,⟨_,rfl,.eq rfl⟩,trivial⟩,⟨rfl,nofun,rfl,rfl,rfl,_,rfl,rfl,rfl,bn.of_eq rfl⟩,⟨rfl,nofun,rfl,rfl,rfl,_,rfl,rfl,rfl,bn.of_eq rfl⟩,trivial⟩
  ·have hk4:k=m+1:=by have:=of_decide_eq_false h4; omega
   subst hk4
   rw[Rx hb0 (by omega)]
   conv=>whnf
   refine .mk (by first|(simp only[okI]; omega)|omega) ?_
   conv=>whnf
   refine⟨[(1,some (pU (jB (m+1) n j)))],j,[1],⟨fun _=>False,dW (Z:=fun _=>False) rfl (fun q=>q),trivial⟩,by omega,by omega,⟨⟨_,rfl,.eq rfl⟩,⟨_,rfl,.eq rfl⟩,trivial⟩,⟨⟨_,rfl,.eq rfl⟩,⟨_,rfl,.eq rfl⟩,trivial⟩,okF rfl nofun rfl rfl rfl ⟨rfl,rfl⟩ rfl,trivial⟩
 ·have hj0:j=0:=by have:=of_decide_eq_false h3; omega
  subst hj0
  rw[Vq]
  conv=>whnf
  exact ak.adO rfl
theorem OW{b n i:Nat}(hi:i<b^n):(allB b n).getD i []=fD b n i:=by
 unfold allB; simp[List.getD_eq_getElem?_getD,hi]
theorem IK{b n:Nat}:(allB b n).length=b^n:=by simp[allB]
theorem XW{b n v:Nat}(hb0:0<b)(hb:b<=9):yI (fD b n v):=fun x hx=>by have:=Ip hb0 x hx; omega
theorem XY{e:Elem}(hl:e.counts.length<=6)(hc:yI e.counts):nH e=e.counts.sum:=by
 rw[nH,if_neg (by omega),if_pos]
 rw[List.all_eq_true]; intro x hx; exact aad.2 (hc x hx)
def posB(b n w i:Nat):List Elem:=((allB b n).take i).filterMap fun c=>bif decide (c.sum>0) then some (⟨(w:Int),c⟩:Elem) else none
theorem VA{b n w i:Nat}(hi:i<b^n):posB b n w (i+1)=posB b n w i++bif decide ((fD b n i).sum>0) then [⟨(w:Int),fD b n i⟩] else []:=by
 unfold posB
 have h:i<(allB b n).length:=by rw[IK]; exact hi
 have e:=OW hi
 rw[show(allB b n).getD i []=(allB b n)[i] by simp[h]] at e
 rw[List.take_add_one,List.filterMap_append,List.getElem?_eq_getElem h,e,show(some (fD b n i)).toList=[fD b n i] from rfl,List.filterMap_cons,List.filterMap_nil]
 cases decide ((fD b n i).sum>0)<;>rfl
theorem XZ{b n w:Nat}(hb:0<b):posB b n w (b^n)=uH b n w (b^n-1):=by
 unfold posB
 rw[List.take_of_length_le (by rw[IK]; exact Nat.le_refl _)]; exact XM hb
theorem X0{b n w i:Nat}:(posB b n w i).length<=i:=by
 unfold posB
 have:=List.length_filterMap_le (fun c=>bif decide (c.sum>0) then some (⟨(w:Int),c⟩:Elem) else none) ((allB b n).take i)
 rw[List.length_take] at this; omega
set_option maxHeartbeats 1000000 in
theorem S.xK(p:aX)(n vals m:Nat)(_hp:dn p)(hn:p.states.length=n)(hn0:0<n)(EW:n<=6)(hvs:max 1 p.values.length=vals)(kZ:vals<=3)(hm8:m<=8) :
  aj Tryz.prog 61 [.dat (.bW p),.int m] (.row 3 false (.elems (fJ (m+1) n vals))):=by
 have hb0:0<m+1:=by omega
 have h46:(m+1)^n<=531441:=qQ (by omega) EW
 have hAl:(allB (m+1) n).length=(m+1)^n:=IK
 have hA:=S.XV n m hn0 EW hm8
 rw[<- hn] at hA
 refine aj.of Bd.xK (by simp) rfl rfl ?_
 conv=>whnf
 refine ah.pure (hA) rfl ?_
 conv=>whnf
 rw[hn]
 refine aF.nil 6 41 3 (by rfl) rfl rfl rfl ?_
 refine aF.objs 2 [2,5] (fun v:Nat=>[(7,.int v),(6,.own 1)]) (fun v=>[(0,.box 27 11 (.dat (.bW p))),(1,lT (fJ (m+1) n v))]) (fun v=>v<=vals) (fun v=>vals-v) 0 [0,10] rfl (by decide) (fun _=>rfl) (Nat.zero_le _) ?_ ?_ ?_
 ·exact⟨⟨_,rfl,.eq rfl⟩,⟨_,rfl,.eq rfl⟩,trivial⟩
 ·exact⟨⟨rfl,nofun,rfl,rfl,rfl,_,rfl,rfl,rfl,bn.of_eq rfl⟩,⟨rfl,nofun,rfl,rfl,rfl,_,rfl,rfl,rfl,bn.of_eq rfl⟩,trivial⟩
 conv=>whnf
 refine⟨⟨⟨_,rfl,.eq rfl⟩,⟨_,rfl,.eq rfl⟩,trivial⟩,rfl,?_⟩
 rintro v hv
 have hrl:(fJ (m+1) n v).length=v*((m+1)^n-1):=qM
 have hr2:v*((m+1)^n-1)<=3*531441:=Nat.mul_le_mul (by omega) (by omega)
 conv=>whnf
 refine⟨fun h3=>?_,fun h3=>?_⟩
 ·have hv':v<vals:=by
   have:(v:Int)<max 1 (p.values.length:Int):=of_decide_eq_true h3
   omega
  conv=>whnf
  refine aF.OU 2 [2,5,7] (fun i:Nat=>[(8,.int i),(6,.own 1)]) (fun i=>[(0,.box 27 11 (.dat (.bW p))),(1,lT (fJ (m+1) n v++posB (m+1) n v i))]) (fun i=>i<=(m+1)^n) (fun i=>(m+1)^n-i) 0 [0,1] [(0,some (.box 27 11 (.dat (.bW p)))),(1,some (lT (fJ (m+1) n v)))] rfl (by decide) (fun _=>rfl) (Nat.zero_le _) ?_ ?_ ?_ ?_
  ·exact⟨⟨_,rfl,.eq rfl⟩,⟨_,rfl,.eq rfl⟩,trivial⟩
  ·exact⟨fun _=>False,dW (Z:=fun _=>False) rfl (fun q=>q),dW (Z:=fun _=>False) rfl (fun q=>q),trivial⟩
  ·exact⟨okF rfl nofun rfl rfl rfl ⟨rfl,rfl⟩ rfl,okF rfl nofun rfl rfl rfl ⟨rfl,rfl⟩ (by simp[posB]),trivial⟩
  conv=>whnf
  refine⟨⟨⟨_,rfl,.eq rfl⟩,⟨_,rfl,.eq rfl⟩,⟨_,rfl,.eq rfl⟩,trivial⟩,rfl,?_⟩
  rintro i hi
  have hsl:=@X0 (m+1) n v i
  have hal:(fJ (m+1) n v++posB (m+1) n v i).length<=4*531441:=by rw[List.length_append]; omega
  conv=>whnf
  refine⟨fun h4=>?_,fun h4=>?_⟩
  ·have hi':i<(m+1)^n:=by
    have:(i:Int)<((allB (m+1) n).length:Int):=of_decide_eq_true h4
    omega
   have hget:=OW hi'
   have hss:=@VA (m+1) n v i hi'
   have hdl:(fD (m+1) n i).length=n:=eF
   have htot:nH ⟨(v:Int),fD (m+1) n i⟩=(fD (m+1) n i).sum:=XY (by show(fD (m+1) n i).length<=6; omega) (XW hb0 (by omega))
   conv=>whnf
   repeat(refine VC.mk (by first|(simp only[Rw.rng,Int.toNat_natCast,hAl]; omega)|(simp only[kU,kD,Rw.len,Int.toNat_natCast]; rw[hget,eF]; omega)) ?_; conv=>whnf)
   rw[show(allB (m+1) n).getD (i:Int).toNat []=fD (m+1) n i from hget]
   refine ah.lend (S.xM ⟨(v:Int),fD (m+1) n i⟩ (by show(fD (m+1) n i).length<2^40; omega)) ⟨ab7 trivial rfl,trivial⟩ rfl rfl ?_
   rw[htot]
   refine⟨fun h5=>?_,fun h5=>?_⟩
   ·rw[show decide ((fD (m+1) n i).sum>0)=true from h5] at hss
    conv=>whnf
    repeat(refine VC.mk (by first|(first|(simp only[Rw.rng,Int.toNat_natCast,hAl]; omega)|(simp only[kU,kD,Rw.len]; rw[hget,eF]; omega)|(show((fJ (m+1) n v++posB (m+1) n v i).length+(0+1))*32<=140737488355328/\(fJ (m+1) n v++posB (m+1) n v i).length+(0+1)<=1152921504606846976; omega))|(simp only[okI] at *; omega)) ?_; conv=>whnf)
    refine⟨[(0,some (.box 27 11 (.dat (.bW p)))),(22,some (lT ((fJ (m+1) n v++posB (m+1) n v i)++[⟨(v:Int),fD (m+1) n i⟩])))],i+1,[0,22],⟨fun i=>i=12,dW (Z:=fun i=>i=12) (i:=0) rfl (by decide),IJ (Z:=fun i=>i=12) (i:=22) (j:=12) rfl (by decide) rfl rfl,trivial⟩,by omega,by omega,⟨⟨_,rfl,.eq rfl⟩,⟨_,rfl,.eq rfl⟩,trivial⟩,⟨⟨_,rfl,.eq rfl⟩,⟨_,rfl,.eq rfl⟩,⟨_,rfl,.eq rfl⟩,trivial⟩,okF rfl nofun rfl rfl rfl ⟨rfl,rfl⟩ rfl,okF rfl nofun rfl rfl rfl ⟨rfl,rfl⟩ ?_,trivial⟩
    rw[hss,<- List.append_assoc]; rfl
   ·rw[show decide ((fD (m+1) n i).sum>0)=false from h5] at hss
    conv=>whnf
    refine .mk (by simp only[okI] at *; omega) ?_
    conv=>whnf
    refine⟨[(0,some (.box 27 11 (.dat (.bW p)))),(1,some (lT (fJ (m+1) n v++posB (m+1) n v i)))],i+1,[0,1],⟨fun _=>False,dW (Z:=fun _=>False) rfl (fun q=>q),dW (Z:=fun _=>False) rfl (fun q=>q),trivial⟩,by omega,by omega,⟨⟨_,rfl,.eq rfl⟩,⟨_,rfl,.eq rfl⟩,trivial⟩,⟨⟨_,rfl,.eq rfl⟩,⟨_,rfl,.eq rfl⟩,⟨_,rfl,.eq rfl⟩,trivial⟩,okF rfl nofun rfl rfl rfl ⟨rfl,rfl⟩ rfl,okF rfl nofun rfl rfl rfl ⟨rfl,rfl⟩ (by rw[hss]; simp),trivial⟩
  ·have hi':i=(m+1)^n:=by
    have: ¬ ((i:Int)<((allB (m+1) n).length:Int)):=of_decide_eq_false h4
    omega
   rw[hi',XZ hb0,<- AX]
   conv=>whnf
   refine .mk (by simp only[okI] at *; omega) ?_
   conv=>whnf
   refine⟨v+1,[0,1],by omega,by omega,⟨⟨_,rfl,.eq rfl⟩,⟨_,rfl,.eq rfl⟩,trivial⟩,⟨⟨_,rfl,.eq rfl⟩,⟨_,rfl,.eq rfl⟩,trivial⟩,⟨rfl,nofun,rfl,rfl,rfl,_,rfl,rfl,rfl,bn.of_eq rfl⟩,⟨rfl,nofun,rfl,rfl,rfl,_,rfl,rfl,rfl,bn.of_eq rfl⟩,trivial⟩
 ·have hv':v=vals:=by
   have: ¬ (v:Int)<max 1 (p.values.length:Int):=of_decide_eq_false h3
   omega
  rw[hv']
  conv=>whnf
  exact ak.adP rfl
end Go.Proofs.YtifbibbicplneaaGreatDoor
