/-
 A part of the proof. No condition.
-/
import Derived.Test.YtbfhebmdcpmfaaaGreatDoorLf
import Derived.Test.YtbfhebmdcpmfaaaGreatDoorFa
namespace Go.Proofs.YtbfhebmdcpmfaaaGreatDoor
open Go.Ab Go.Proofs
set_option maxRecDepth 100000
def iL(c:List Int)(x:Int):List Int:=c.set x.toNat (c.getD x.toNat 0-1)
def sW:List (List Int)->List Int->List Int->Bool
 |[],l,c=>l.any fun x=>decide (c.getD x.toNat 0>0)
 |s::r,l,c=>s.all fun x=>c.getD x.toNat 0==0||sW r l (iL c x)
def Ub(k:Clause)(v:Int):Bool:=decide ((k.values.length:Int)>0)&& !(k.values.any fun y=>v==y)
def holdsB(k:Clause)(e:Elem):Bool:=Ub k e.value||sW k.each k.some e.counts
def DY(n:Nat)(l:List Int):Prop:=(∀ x∈l,0<=x/\x<n)/\l.Pairwise (· < ·)
structure Hg(n vals:Nat)(k:Clause):Prop where
 two:k.each.length<=2
 each: ∀ s∈k.each,DY n s/\s≠[]
 values:DY vals k.values
 some:DY n k.some
theorem Bj{c:List Int}{a b:Int}(ha:0<=a/\a<c.length)(hb:0<=b):(iL c a).getD b.toNat 0=c.getD b.toNat 0-(if b=a then 1 else 0):=by
 unfold iL
 by_cases e:b=a
 ·subst e
  have:b.toNat<c.length:=by omega
  rw[if_pos rfl]
  simp[this]
 ·rw[if_neg e]
  have hne:a.toNat≠b.toNat:=by omega
  simp[List.getD_eq_getElem?_getD,List.getElem?_set_ne hne]
theorem NP{α:Type}{l:List α}{p q:α->Bool}(h: ∀ x∈l,p x=q x):l.all p=l.all q:=by
 induction l with
 |nil=>rfl
 |cons x r ih=>rw[List.all_cons,List.all_cons,h x (by simp),ih fun y hy=>h y (List.mem_cons_of_mem _ hy)]
theorem NQ{α:Type}{l:List α}{p q:α->Bool}(h: ∀ x∈l,p x=q x):l.any p=l.any q:=by
 induction l with
 |nil=>rfl
 |cons x r ih=>rw[List.any_cons,List.any_cons,h x (by simp),ih fun y hy=>h y (List.mem_cons_of_mem _ hy)]
theorem Zd{c:List Int}(h: ∀ x∈c,0<=x)(i:Nat):0<=c.getD i 0:=by
 by_cases hi:i<c.length
 ·rw[show c.getD i 0=c[i] by simp[hi]]; exact h _ (List.getElem_mem hi)
 ·rw[show c.getD i 0=0 by simp[List.getD_eq_getElem?_getD,List.getElem?_eq_none (by omega:c.length<=i)]]; omega
def Ze(r:Int)(c d:List Int):Prop:=c.length=d.length/\ ∀ i,0<=c.getD i 0/\0<=d.getD i 0/\min (c.getD i 0) r=min (d.getD i 0) r
theorem NR{l:List Int}: ∀ {each:List (List Int)} {r:Int} {c d:List Int},Ze r c d->(each.length:Int)+(if 0<l.length then 1 else 0)<=r->(∀ s∈each,∀ x∈s,0<=x/\x<c.length)->sW each l c=sW each l d:=by
 intro each
 induction each with
 |nil =>
  intro r c d h hr _
  cases l with
  |nil=>rfl
  |cons y l =>
   simp only[List.length_cons,if_pos (Nat.succ_pos _),List.length_nil] at hr
   refine NQ fun x _=>decide_eq_decide.2 ?_
   have:=h.2 x.toNat
   constructor<;>intro g<;>omega
 |cons s each ih =>
  intro r c d h hr hs
  simp only[List.length_cons] at hr
  have hr1:1<=r:=by split at hr<;>omega
  show(s.all fun x=>c.getD x.toNat 0==0||sW each l (iL c x))=s.all fun x=>d.getD x.toNat 0==0||sW each l (iL d x)
  refine NP fun x hx=>?_
  have hxs:=hs s (by simp) x hx
  have hxd:0<=x/\x<d.length:=by rw[<- h.1]; exact hxs
  obtain⟨a1,a2,a3⟩:=h.2 x.toNat
  by_cases hz:c.getD x.toNat 0=0
  ·have:d.getD x.toNat 0=0:=by omega
   rw[hz,this]; rfl
  ·have hd:d.getD x.toNat 0≠0:=by omega
   rw[beq_eq_false_iff_ne.2 hz,beq_eq_false_iff_ne.2 hd,Bool.false_or,Bool.false_or]
   refine ih (r:=r-1) ⟨by simp[iL,h.1],fun i=>?_⟩ (by omega) fun t ht y hy=>by
    have:=hs t (List.mem_cons_of_mem _ ht) y hy
    simpa [iL] using this
   have gi:=h.2 i
   have t1:=Bj (c:=c) (b:=(i:Int)) hxs (by omega)
   have t2:=Bj (c:=d) (b:=(i:Int)) hxd (by omega)
   simp only[Int.toNat_natCast] at t1 t2
   rw[t1,t2]
   by_cases e:(i:Int)=x
   ·have e':x.toNat=i:=by omega
    rw[e'] at hz hd
    rw[if_pos e]; omega
   ·rw[if_neg e]; omega
def vF(k:Clause):Int:=(k.each.length:Int)+(if 0<k.some.length then 1 else 0)
def bZ(l:List Clause):Int:=l.foldl (fun r k=>max r (vF k)) 0
def uS(r:Int)(c:List Int):List Int:=c.map fun x=>min x r
def zA(r:Int)(e:Elem):Elem:=⟨e.value,uS r e.counts⟩
def xY(r:Int)(v:Int)(c:List Int):Int:=c.foldl (fun k x=>k*(r+1)+min x r) v
def keyE(r:Int)(e:Elem):Int:=xY r e.value e.counts
def lC(l:List Clause)(e:Elem):List Bool:=l.map fun k=>holdsB k e
theorem WT{r:Int}{c:List Int}(hr:0<=r){i:Nat}:(uS r c).getD i 0=min (c.getD i 0) r:=by
 by_cases hi:i<c.length
 ·simp[uS,hi]
 ·rw[show(uS r c).getD i 0=0 by simp[uS,List.getD_eq_getElem?_getD,List.getElem?_eq_none (by omega:c.length<=i)],show c.getD i 0=0 by simp[List.getD_eq_getElem?_getD,List.getElem?_eq_none (by omega:c.length<=i)]]; omega
theorem Fa{l:List Clause}: ∀ {r:Int},r<=l.foldl (fun r k=>max r (vF k)) r/\ ∀ k∈l,vF k<=l.foldl (fun r k=>max r (vF k)) r:=by
 induction l with
 |nil=>intro r; exact⟨by simp,fun k h=>by cases h⟩
 |cons x l ih =>
  intro r
  have:=@ih (max r (vF x))
  rw[List.foldl_cons]
  refine⟨by omega,fun k hk=>?_⟩
  rcases List.mem_cons.1 hk with rfl|hk
  ·omega
  ·exact this.2 k hk
theorem Ju{l:List Clause}{k:Clause}(h:k∈l):vF k<=bZ l:=Fa.2 k h
theorem yY{l:List Clause}:0<=bZ l:=Fa.1
theorem wM{l:List Clause}(h: ∀ k∈l,k.each.length<=2):bZ l<=3:=by
 have: ∀ (l:List Clause) (r:Int),r<=3->(∀ k∈l,k.each.length<=2)->l.foldl (fun r k=>max r (vF k)) r<=3:=by
  intro l
  induction l with
  |nil=>intro r hr _; exact hr
  |cons x l ih =>
   intro r hr h
   rw[List.foldl_cons]
   refine ih _ ?_ fun k hk=>h k (List.mem_cons_of_mem _ hk)
   have:=h x (by simp)
   unfold vF
   split<;>omega
 exact this l 0 (by omega) h
theorem CW{n vals:Nat}{k:Clause}{e:Elem}{r:Int}(hk:Hg n vals k)(hn:e.counts.length=n)(hc: ∀ x∈e.counts,0<=x)(hr:vF k<=r):holdsB k (zA r e)=holdsB k e:=by
 have hr0:0<=r:=by unfold vF at hr; split at hr<;>omega
 unfold holdsB zA
 congr 1
 refine NR (r:=r) ⟨by simp[uS],fun i=>?_⟩ hr fun s hs x hx=>by
  have:=(hk.each s hs).1.1 x hx
  simpa [uS,hn] using this
 have:=Zd hc i
 rw[WT hr0]; omega
theorem key_inj{r:Int}(hr:0<=r): ∀ {n:Nat} {v w:Int} {c d:List Int},c.length=n->d.length=n->(∀ x∈c,0<=x)->(∀ x∈d,0<=x)->xY r v c=xY r w d->v=w/\uS r c=uS r d:=by
 intro n
 induction n with
 |zero =>
  intro v w c d hc hd _ _ h
  have:c=[]:=List.eq_nil_of_length_eq_zero hc
  subst this
  have:d=[]:=List.eq_nil_of_length_eq_zero hd
  subst this
  exact⟨h,rfl⟩
 |succ n ih =>
  intro v w c d hc hd pc pd h
  have e1:c≠[]:=by intro e; subst e; simp at hc
  have e2:d≠[]:=by intro e; subst e; simp at hd
  obtain⟨c',x,rfl⟩: ∃ c' x,c=c'++[x]:=⟨_,_,(List.dropLast_concat_getLast e1).symm⟩
  obtain⟨d',y,rfl⟩: ∃ d' y,d=d'++[y]:=⟨_,_,(List.dropLast_concat_getLast e2).symm⟩
  simp only[xY,List.foldl_append,List.foldl_cons,List.foldl_nil] at h
  have hx:=pc x (by simp)
  have hy:=pd y (by simp)
  have hb: ∀ {a b p q:Int},a*(r+1)+p=b*(r+1)+q->0<=p->p<=r->0<=q->q<=r->a=b/\p=q:=by
   intro a b p q h p1 p2 q1 q2
   have hab:(a-b)*(r+1)=q-p:=by rw[Int.sub_mul]; omega
   rcases Int.lt_trichotomy a b with g|g|g
   ·exfalso
    have:(b-a)*(r+1)>=1*(r+1):=Int.mul_le_mul_of_nonneg_right (by omega) (by omega)
    have e:(b-a)*(r+1)= -((a-b)*(r+1)):=by rw[<- Int.neg_mul]; congr 1; omega
    omega
   ·subst g; simp at hab; omega
   ·exfalso
    have:(a-b)*(r+1)>=1*(r+1):=Int.mul_le_mul_of_nonneg_right (by omega) (by omega)
    omega
  obtain⟨h1,h2⟩:=hb h (by omega) (by omega) (by omega) (by omega)
  obtain⟨h3,h4⟩:=ih (by simpa using hc) (by simpa using hd) (fun z hz=>pc z (by simp[hz])) (fun z hz=>pd z (by simp[hz])) h1
  refine⟨h3,?_⟩
  unfold uS at h4 ⊢
  rw[List.map_append,List.map_append,h4]; simp[h2]
structure QF(n:Nat)(e:Elem):Prop where
 len:e.counts.length=n
 nn: ∀ x∈e.counts,0<=x
theorem WU{n vals:Nat}{l:List Clause}{e f:Elem}(hl: ∀ k∈l,Hg n vals k)(he:QF n e)(hf:QF n f)(h:keyE (bZ l) e=keyE (bZ l) f):lC l e=lC l f:=by
 obtain⟨h1,h2⟩:=key_inj yY he.len hf.len he.nn hf.nn h
 refine List.map_congr_left fun k hk=>?_
 rw[<- CW (hl k hk) he.len he.nn (Ju hk),<- CW (hl k hk) hf.len hf.nn (Ju hk)]
 unfold zA
 rw[h1,h2]
theorem WV{n vals:Nat}{l:List Clause}{e:Elem}(hl: ∀ k∈l,Hg n vals k)(he:QF n e):lC l (zA (bZ l) e)=lC l e :=
 List.map_congr_left fun k hk=>CW (hl k hk) he.len he.nn (Ju hk)
def lV(n:Nat)(l:List Clause)(es:List (Int×List Bool)):Prop:= ∀ e,QF n e-> ∀ row,vG (keyE (bZ l) e) es=some row->row=lC l e
theorem lV.nil{n:Nat}{l:List Clause}:lV n l []:=fun e _ row h=>by cases h
theorem Uc{k:Int}{p:Int×List Bool}: ∀ {es:List (Int×List Bool)} {row:List Bool},vG k (es++[p])=some row->vG k es=some row\/(k=p.1/\row=p.2):=by
 intro es
 induction es with
 |nil =>
  intro row h
  obtain⟨a,b⟩:=p
  simp only[List.nil_append,vG] at h
  cases hb:k==a with
  |true=>rw[hb] at h; cases h; exact .inr ⟨beq_iff_eq.1 hb,rfl⟩
  |false=>rw[hb] at h; cases h
 |cons q es ih =>
  obtain⟨a,b⟩:=q
  intro row h
  simp only[List.cons_append,vG] at h ⊢
  cases hb:k==a with
  |true=>rw[hb] at h; exact .inl h
  |false=>rw[hb] at h; exact ih h
theorem lV.add{n vals:Nat}{l:List Clause}{es:List (Int×List Bool)}{e:Elem}(h:lV n l es)(hl: ∀ k∈l,Hg n vals k)(he:QF n e):lV n l (es++[(keyE (bZ l) e,lC l e)]):=by
 intro f hf row hr
 rcases Uc hr with hr|⟨h1,rfl⟩
 ·exact h f hf row hr
 ·exact WU hl he hf h1.symm
def kP(b:Nat):Nat->Nat->List Int
 |0,_=>[]
 |n+1,v=>kP b n (v / b)++[((v % b:Nat):Int)]
theorem fJ{b:Nat}: ∀ {n v:Nat},(kP b n v).length=n:=by
 intro n
 induction n with
 |zero=>intro v; rfl
 |succ n ih=>intro v; simp[kP,ih]
theorem KU{b:Nat}(hb:0<b): ∀ {n v:Nat},∀ x∈kP b n v,0<=x/\x<b:=by
 intro n
 induction n with
 |zero=>intro v x h; cases h
 |succ n ih =>
  intro v x h
  rcases List.mem_append.1 h with h|h
  ·exact ih x h
  ·rw[List.mem_singleton] at h; subst h
   have:=Nat.mod_lt v hb
   omega
theorem Fb{b n u:Nat}(hb:0<b): ∀ {k:Nat},kP b (n+k) (u*b^k)=kP b n u++List.replicate k 0:=by
 intro k
 induction k with
 |zero=>simp
 |succ k ih =>
  rw[<- Nat.add_assoc]
  simp only[kP]
  rw[Nat.pow_succ,<- Nat.mul_assoc,Nat.mul_div_cancel _ hb,ih,Nat.mul_mod_left,List.append_assoc,List.replicate_succ']
  rfl
theorem Ip{b n:Nat}(hb:0<b):kP b n 0=List.replicate n 0:=by
 have:=@Fb b 0 0 hb n
 simpa [kP] using this
theorem Ud{b:Nat}(hb:0<b): ∀ {n v:Nat},v<b^n->v≠0->0<(kP b n v).sum:=by
 intro n
 induction n with
 |zero=>intro v h h0; simp at h; omega
 |succ n ih =>
  intro v h h0
  simp only[kP,List.sum_append,List.sum_singleton]
  have hnn:0<=(kP b n (v / b)).sum:=by
   have: ∀ l:List Int,(∀ x∈l,0<=x)->0<=l.sum:=by
    intro l
    induction l with
    |nil=>intro _; simp
    |cons x l ih=>intro h; have:=h x (by simp); have:=ih fun y hy=>h y (by simp[hy]); simp only[List.sum_cons]; omega
   exact this _ fun x hx=>(KU hb x hx).1
  by_cases hd:v / b=0
  ·have h1:v<b:=by rcases Nat.div_eq_zero_iff.1 hd with h|h<;>omega
   have:v % b=v:=Nat.mod_eq_of_lt h1
   omega
  ·have:v / b<b^n:=by
    rw[Nat.div_lt_iff_lt_mul hb,<- Nat.pow_succ]; exact h
   have:=ih this hd
   omega
def rP(b n v k:Nat):List Int:=kP b (n-k) (v / b^k)++List.replicate k 0
theorem Iq{b n v k:Nat}(h:k<=n):(rP b n v k).length=n:=by simp[rP,fJ]; omega
theorem Fe{b n v:Nat}:rP b n v 0=kP b n v:=by simp[rP]
theorem nZ{b n v k:Nat}(h:k<n):rP b n v k=kP b (n-k-1) (v / b^k / b)++(((v / b^k % b:Nat):Int)::List.replicate k 0):=by
 unfold rP
 obtain⟨j,hj⟩: ∃ j,n-k=j+1:=⟨n-k-1,by omega⟩
 rw[hj,kP,List.append_assoc]; rfl
theorem Fg{b n v k:Nat}(_h:k<n):rP b n v (k+1)=kP b (n-k-1) (v / b^k / b)++((0:Int)::List.replicate k 0):=by
 unfold rP
 rw[Nat.pow_succ,<- Nat.div_div_eq_div_mul,Nat.sub_add_eq,List.replicate_succ]
theorem Py{a b:Nat}(hb:0<b)(h:a % b+1≠b):(a+1) / b=a / b/\(a+1) % b=a % b+1:=by
 have h1:=Nat.mod_lt a hb
 have h2:=Nat.div_add_mod a b
 have e:a+1=(a % b+1)+b*(a / b):=by omega
 have h3:a % b+1<b:=by omega
 constructor
 ·rw[e,Nat.add_mul_div_left _ _ hb,Nat.div_eq_of_lt h3]; omega
 ·rw[e,Nat.add_mul_mod_self_left,Nat.mod_eq_of_lt h3]
theorem Ue{a b:Nat}(_hb:0<b)(h:a % b+1=b):(a / b+1)*b=a+1:=by
 have h2:=Nat.div_add_mod a b
 rw[Nat.succ_mul,Nat.mul_comm]; omega
theorem Ir{b n v k:Nat}(hb:0<b)(h:k<n)(h3:v / b^k % b+1≠b)(hv:v+1=(v / b^k+1)*b^k):kP b (n-k-1) (v / b^k / b)++((((v / b^k % b:Nat):Int)+1)::List.replicate k 0)=kP b n (v+1):=by
 have e:kP b n (v+1)=kP b ((n-k-1+1)+k) ((v / b^k+1)*b^k):=by rw[<- hv]; congr 1; omega
 obtain⟨m1,m2⟩:=Py hb h3
 rw[e,Fb hb,kP,List.append_assoc,m1,m2]
 rfl
theorem Fh{b v k:Nat}(hb:0<b)(h3:v / b^k % b+1=b)(hv:v+1=(v / b^k+1)*b^k):v+1=(v / b^(k+1)+1)*b^(k+1):=by
 have e:v / b^(k+1)=v / b^k / b:=by rw[Nat.pow_succ,<- Nat.div_div_eq_div_mul]
 rw[e,Nat.pow_succ,Nat.mul_comm (b^k) b,<- Nat.mul_assoc,Ue hb h3]
 exact hv
theorem Pz{b n v k:Nat}(hb:0<b)(h:k<n)(hlt:v<b^n)(h3:v / b^k % b+1≠b)(hv:v+1=(v / b^k+1)*b^k):v+1<b^n:=by
 have e:b^n=b^(n-k-1)*b*b^k:=by
  rw[<- Nat.pow_succ,<- Nat.pow_add]; congr 1; omega
 have h1:v / b^k<b^(n-k-1)*b:=by
  rw[Nat.div_lt_iff_lt_mul (Nat.pow_pos hb),<- e]; exact hlt
 have h2:v / b^k+1<b^(n-k-1)*b:=by
  rcases Nat.lt_or_ge (v / b^k+1) (b^(n-k-1)*b) with g|g
  ·exact g
  ·exfalso
   have e2:v / b^k+1=b^(n-k-1)*b:=by omega
   have m:=(Py hb h3).2
   rw[e2,Nat.mul_mod_left] at m
   omega
 rw[hv,e]
 exact Nat.mul_lt_mul_of_pos_right h2 (Nat.pow_pos hb)
theorem KX{b n v:Nat}(hlt:v<b^n)(hv:v+1=(v / b^n+1)*b^n):v+1=b^n:=by
 rw[Nat.div_eq_of_lt hlt] at hv; omega
def uT(b n w u:Nat):List Elem:=(List.range u).map fun v=>⟨(w:Int),kP b n (v+1)⟩
def jI(b n vals:Nat):List Elem:=(List.range vals).flatMap fun w=>uT b n w (b^n-1)
theorem Iu{b n w u:Nat}:uT b n w (u+1)=uT b n w u++[⟨(w:Int),kP b n (u+1)⟩]:=by
 unfold uT; rw[List.range_succ,List.map_append]; rfl
theorem CX{b n w:Nat}:jI b n (w+1)=jI b n w++uT b n w (b^n-1):=by
 unfold jI; rw[List.range_succ,List.flatMap_append]; simp
theorem Fj{b n w u:Nat}:(uT b n w u).length=u:=by simp[uT]
theorem vH{b n vals:Nat}:(jI b n vals).length=vals*(b^n-1):=by
 induction vals with
 |zero=>simp[jI]
 |succ w ih=>rw[CX,List.length_append,ih,Fj,Nat.succ_mul]
structure Fp(b n vals:Nat)(e:Elem):Prop where
 len:e.counts.length=n
 rng: ∀ x∈e.counts,0<=x/\x<b
 val:0<=e.value/\e.value<vals
 pos:0<e.counts.sum
theorem EC{b n vals:Nat}(hb:0<b): ∀ e∈jI b n vals,Fp b n vals e:=by
 intro e h
 obtain⟨w,hw,h2⟩:=List.mem_flatMap.1 h
 obtain⟨v,hv,rfl⟩:=List.mem_map.1 h2
 have:=List.mem_range.1 hw
 have:=List.mem_range.1 hv
 have hp:0<b^n:=Nat.pow_pos hb
 exact⟨fJ,fun x hx=>KU hb x hx,⟨by show(0:Int)<=w; omega,by show(w:Int)<vals; omega⟩,Ud hb (by omega) (by omega)⟩
structure kE(k:Clause):Prop where
 each:k.each.length<2^30
 rows: ∀ i,(k.each.getD i []).length<2^30
 values:k.values.length<2^30
 some:k.some.length<2^30
structure SmallK(l:List Clause):Prop where
 len:l.length<2^30
 cl: ∀ i,kE (l.getD i default)
def zZ(p:aW):Int:=bif cO p==0&& !(jL p).monadic then 7 else cO p
def CY(p:aW)(q:Prop'):Int:=bif qM p q !=0 then qM p q else dU (zZ p !=0||q.kind !=1) 7
def pJ(n:Int)(s:List Int):Int:=bif eF s n !=0 then eF s n else dU ((s.length:Int)==0) 1
def xR(p:aW)(k:Clause):Int :=
 bif decide ((k.each.length:Int)>2) then 1 else
 bif aQ (k.each.map (pJ p.states.length)) !=0 then aQ (k.each.map (pJ p.states.length)) else
 bif eF k.values p.values.length !=0 then eF k.values p.values.length else eF k.some p.states.length
def pX(p:aW)(l:List Clause):Int:=bif decide ((l.length:Int)>160) then 4 else aQ (l.map (xR p))
theorem S.jV(l:List Int)(n:Int)(f:Bool)(hl:l.length<2^40):au Tryz.prog 43 [.row 0 f (.ints l),.int n] (.int (eF l n)):=by
 refine au.of Bd.jV (by simp) rfl rfl ?_
 conv=>whnf
 refine aJ.same [0,1,8,9] (fun i:Nat=>[(10,.int i)]) (fun i=>i<=l.length/\(l.take i).any (fun i=>nI i n)=false) (fun i=>l.length-i) 0 rfl (by decide) rfl (fun _=>rfl) ⟨by omega,by simp⟩ ⟨⟨_,rfl,rfl⟩,trivial⟩ ?_
 conv=>whnf
 refine⟨rfl,?_⟩
 rintro i ⟨hi,hall⟩
 conv=>whnf
 refine⟨fun h3=>?_,fun h3=>?_⟩
 ·have hi':i<l.length:=by simpa using h3
  conv=>whnf
  repeat(refine VC.mk (by first|exact fun h=>⟨h,h⟩|(intro h; rw[h]; rfl)|(simp only[Rw.rng] at *; omega)) ?_; conv=>whnf)
  refine⟨fun h4=>?_,fun h4=>?_⟩
  ·conv=>whnf
   refine aA.int ?_
   rw[eF,nT (d:=0) hi' h4]; rfl
  ·conv=>whnf
   refine .mk (by simp only[okI] at *; omega) ?_
   conv=>whnf
   refine⟨i+1,⟨by omega,?_⟩,by omega,⟨⟨_,rfl,rfl⟩,trivial⟩,?_,rfl⟩
   ·rw[qN (d:=0) hi' hall]; exact h4
   ·repeat' (first|exact trivial|exact⟨_,rfl,rfl⟩|constructor)
 ·have hi':l.length<=i:=by simpa using h3
  rw[List.take_of_length_le hi'] at hall
  conv=>whnf
  refine aJ.same [0] (fun i:Nat=>[(7,.int (i+1))]) (fun i=>(i<l.length\/i=0)/\xI l=xI (l.drop i)) (fun i=>l.length-i) 0 rfl (by decide) rfl (fun _=>rfl) ⟨by omega,by simp⟩ ⟨⟨_,rfl,rfl⟩,trivial⟩ ?_
  conv=>whnf
  refine⟨rfl,?_⟩
  rintro i ⟨hi,hinc⟩
  conv=>whnf
  refine⟨fun h5=>?_,fun h5=>?_⟩
  ·have hi1:i+1<l.length:=by have:=of_decide_eq_true h5; omega
   rw[bg 0 (show i<l.length by omega),bg 0 hi1] at hinc
   simp only[xI] at hinc
   rw[<- bg 0 hi1] at hinc
   conv=>whnf
   repeat(refine VC.mk (by simp only[okI,Rw.rng] at *; omega) ?_; conv=>whnf)
   refine⟨fun h6=>?_,fun h6=>?_⟩
   ·conv=>whnf
    refine aA.int ?_
    have e1:((i:Int)+1).toNat=i+1:=by omega
    have e2:((i:Int)+1-1).toNat=i:=by omega
    rw[e1,e2] at h6
    have h6':l.getD (i+1) 0<=l.getD i 0:=of_decide_eq_true h6
    rw[eF,hall,hinc,decide_eq_false (by omega)]; rfl
   ·conv=>whnf
    refine .mk (by simp only[okI] at *; omega) ?_
    conv=>whnf
    have e1:((i:Int)+1).toNat=i+1:=by omega
    have e2:((i:Int)+1-1).toNat=i:=by omega
    rw[e1,e2] at h6
    have h6': ¬ l.getD (i+1) 0<=l.getD i 0:=of_decide_eq_false h6
    rw[decide_eq_true (by omega),Bool.true_and] at hinc
    refine⟨i+1,⟨by omega,hinc⟩,by omega,⟨⟨_,rfl,rfl⟩,trivial⟩,?_,rfl⟩
    repeat' (first|exact trivial|exact⟨_,rfl,rfl⟩|constructor)
  ·conv=>whnf
   refine aA.int ?_
   have h5': ¬ ((i:Int)+1<l.length):=of_decide_eq_false h5
   have:xI l=true:=by
    rw[hinc]
    rcases hd:l.drop i with _|⟨a,_|⟨b,r⟩⟩
    ·rfl
    ·rfl
    ·have:=congrArg List.length hd
     simp only[List.length_drop,List.length_cons] at this
     omega
   rw[eF,hall,this]; rfl
theorem S.eP(p:aW)(hp:dM p):au Tryz.prog 16 [.dat (.dw p)] (.int (zZ p)):=by
 refine au.of Bd.eP (by simp) rfl rfl ?_
 conv=>whnf
 refine ah.pure (S.jM p hp) rfl ?_
 conv=>whnf
 repeat(refine VC.mk id ?_; conv=>whnf)
 refine⟨fun h1=>?_,fun h1=>?_⟩
 ·conv=>whnf
  have h2:cO p=0:=by
   cases hv:(cO p==0) with
   |true=>exact beq_iff_eq.1 hv
   |false=>rw[hv] at h1; cases h1
  refine aA.int ?_
  rw[zZ,h2]
  rw[show(bif (cO p !=0) then Iw else jL p)=jL p by rw[h2]; rfl] at h1
  rw[h2] at h1
  rw[show((0:Int)==0&& !(jL p).monadic)=true from h1]; rfl
 ·conv=>whnf
  refine aA.int ?_
  unfold zZ
  cases hv:(cO p==0) with
  |false=>rfl
  |true =>
   rw[show(bif (cO p !=0) then Iw else jL p)=jL p by rw[beq_iff_eq.1 hv]; rfl,hv] at h1
   rw[show(true&& !(jL p).monadic)=false from h1]; rfl
theorem S.sZ(p:aW)(hp:dM p):au Tryz.prog 18 [.dat (.dw p)] (.int (zZ p)):=by
 refine au.of Bd.sZ (by simp) rfl rfl ?_
 conv=>whnf
 refine ah.pure (S.oI p hp) rfl ?_
 conv=>whnf
 refine⟨fun h1=>?_,fun h1=>?_⟩
 ·conv=>whnf
  exact aA.int (by rw[zZ,show(cO p==0)=false from beq_eq_false_iff_ne.2 (Iy h1)]; rfl)
 have h2:=yX h1
 conv=>whnf
 refine⟨fun h3=>?_,fun h3=>?_⟩
 ·conv=>whnf
  refine aA.int ?_
  rw[show(bif (cO p !=0) then Iw else jL p)=jL p by rw[h2]; rfl] at h3
  rw[zZ,h2,show((0:Int)==0&& !(jL p).monadic)=true from h3]; rfl
 ·conv=>whnf
  refine aA.int ?_
  rw[show(bif (cO p !=0) then Iw else jL p)=jL p by rw[h2]; rfl] at h3
  rw[zZ,h2,show((0:Int)==0&& !(jL p).monadic)=false from h3]; rfl
theorem S.lD(p:aW)(q:Prop')(hp:dM p)(hq:uO q):au Tryz.prog 69 [.dat (.dw p),.dat (.prop q)] (.int (CY p q)):=by
 refine au.of Bd.lD (by simp) rfl rfl ?_
 conv=>whnf
 refine ah.pure (S.dI p q hp hq) rfl ?_
 conv=>whnf
 refine⟨fun h1=>?_,fun h1=>?_⟩
 ·conv=>whnf
  exact aA.int (by rw[CY,h1]; rfl)
 conv=>whnf
 refine ah.pure (S.eP p hp) rfl ?_
 conv=>whnf
 repeat(refine VC.mk (by first|exact id|(intro h; rw[h]; rfl)) ?_; conv=>whnf)
 refine⟨fun h2=>?_,fun h2=>?_⟩
 ·conv=>whnf
  exact aA.int (by rw[CY,h1,show(zZ p !=0||q.kind !=1)=true by simpa using h2]; rfl)
 ·conv=>whnf
  exact aA.int (by rw[CY,h1,show(zZ p !=0||q.kind !=1)=false by simpa using h2]; rfl)
theorem Fq(a:Int)(r:List Int):aQ (a::r)=bif a !=0 then a else aQ r:=by
 by_cases h:a=0
 ·subst h; rfl
 ·rw[show(a !=0)=true by simp[h]]; simp[aQ,h]
theorem QG{n:Int}{k:Clause}{i:Nat}(hi:i<k.each.length):aQ ((k.each.drop i).map (pJ n))=bif pJ n (k.each.getD i []) !=0 then pJ n (k.each.getD i []) else aQ ((k.each.drop (i+1)).map (pJ n)):=by
 rw[bg [] hi,List.map_cons,Fq]
theorem Fv{p:aW}{l:List Clause}{i:Nat}(hi:i<l.length):aQ ((l.drop i).map (xR p))=bif xR p (l.getD i default) !=0 then xR p (l.getD i default) else aQ ((l.drop (i+1)).map (xR p)):=by
 rw[bg default hi,List.map_cons,Fq]
theorem S.dA(p:aW)(k:Clause)(hp:dM p)(hk:kE k):au Tryz.prog 21 [.dat (.dw p),.dat (.clause k)] (.int (xR p k)):=by
 have g1:=hp.states; have g2:=hp.values; have k1:=hk.each; have k2:=hk.values; have k3:=hk.some
 refine au.of Bd.dA (by simp) rfl rfl ?_
 conv=>whnf
 refine⟨fun h1=>?_,fun h1=>?_⟩
 ·conv=>whnf
  exact aA.int (by rw[xR,h1]; rfl)
 conv=>whnf
 refine aJ.same [2,3,14,15] (fun i:Nat=>[(16,.int i)]) (fun i=>i<=k.each.length/\aQ (k.each.map (pJ p.states.length))=aQ ((k.each.drop i).map (pJ p.states.length))) (fun i=>k.each.length-i) 0 rfl (by decide) rfl (fun _=>rfl) ⟨by omega,by simp⟩ ⟨⟨_,rfl,rfl⟩,trivial⟩ ?_
 conv=>whnf
 refine⟨rfl,?_⟩
 rintro i ⟨hi,hf⟩
 have k4:=hk.rows i
 conv=>whnf
 refine⟨fun h3=>?_,fun h3=>?_⟩
 ·have hi':i<k.each.length:=by simpa using h3
  rw[QG hi'] at hf
  conv=>whnf
  refine .mk (by simp only[Rw.rng] at *; first|omega|(simp_all; done)|(simp_all; omega)) ?_
  conv=>whnf
  refine ah.pure (S.jV (k.each.getD i []) p.states.length false (by omega)) rfl ?_
  conv=>whnf
  refine⟨fun h4=>?_,fun h4=>?_⟩
  ·conv=>whnf
   refine aA.int ?_
   have e:pJ p.states.length (k.each.getD i [])=eF (k.each.getD i []) p.states.length:=by rw[pJ,show(eF (k.each.getD i []) p.states.length !=0)=true from h4]; rfl
   rw[e,show(eF (k.each.getD i []) p.states.length !=0)=true from h4,cond_true] at hf
   rw[xR,h1,hf,show(eF (k.each.getD i []) p.states.length !=0)=true from h4]; rfl
  ·have h4':(eF (k.each.getD i []) p.states.length !=0)=false:=h4
   have e:pJ p.states.length (k.each.getD i [])=dU (((k.each.getD i []).length:Int)==0) 1:=by rw[pJ,h4']; rfl
   rw[e] at hf
   conv=>whnf
   refine⟨fun h5=>?_,fun h5=>?_⟩
   ·conv=>whnf
    refine aA.int ?_
    rw[show(((k.each.getD i []).length:Int)==0)=true from h5] at hf
    rw[xR,h1,hf]; rfl
   ·conv=>whnf
    refine .mk (by simp only[okI] at *; first|omega|(simp_all; done)|(simp_all; omega)) ?_
    conv=>whnf
    rw[show(((k.each.getD i []).length:Int)==0)=false from h5] at hf
    refine⟨i+1,⟨by omega,hf⟩,by omega,⟨⟨_,rfl,rfl⟩,trivial⟩,?_,rfl⟩
    repeat' (first|exact trivial|exact⟨_,rfl,rfl⟩|constructor)
 ·have hi':k.each.length<=i:=by simpa using h3
  rw[List.drop_eq_nil_of_le hi'] at hf
  have hf0:aQ (k.each.map (pJ p.states.length))=0:=hf
  conv=>whnf
  refine ah.pure (S.jV k.values p.values.length false (by omega)) rfl ?_
  conv=>whnf
  refine⟨fun h6=>?_,fun h6=>?_⟩
  ·conv=>whnf
   exact aA.int (by rw[xR,h1,hf0,show(eF k.values p.values.length !=0)=true from h6]; rfl)
  ·conv=>whnf
   refine ah.pure (S.jV k.some p.states.length false (by omega)) rfl ?_
   conv=>whnf
   exact aA.int (by rw[xR,h1,hf0,show(eF k.values p.values.length !=0)=false from h6]; rfl)
theorem S.eU(p:aW)(k:Clause)(hp:dM p)(hk:kE k):au Tryz.prog 9 [.dat (.dw p),.dat (.clause k)] (.int (bif zZ p !=0 then zZ p else xR p k)):=by
 refine au.of Bd.eU (by simp) rfl rfl ?_
 conv=>whnf
 refine ah.pure (S.eP p hp) rfl ?_
 conv=>whnf
 refine⟨fun h1=>?_,fun h1=>?_⟩
 ·conv=>whnf
  exact aA.int (by rw[h1]; rfl)
 ·conv=>whnf
  refine ah.pure (S.dA p k hp hk) rfl ?_
  conv=>whnf
  exact aA.int (by rw[h1]; rfl)
theorem Iz{l:List Clause}{i:Nat}(hi:i<l.length):bZ (l.take (i+1))=max (bZ (l.take i)) (vF (l.getD i default)):=by
 unfold bZ
 rw[List.take_add_one,List.foldl_append]; simp[hi]
theorem S.mD(l:List Clause)(f:Bool)(hl:SmallK l):au Tryz.prog 50 [.row 4 f (.clauses l)] (.int (bZ l)):=by
 have k1:=hl.len
 refine au.of Bd.mD (by simp) rfl rfl ?_
 conv=>whnf
 refine aJ.same [7,8] (fun i:Nat=>[(9,.int i),(3,.int (bZ (l.take i)))]) (fun i=>i<=l.length) (fun i=>l.length-i) 0 rfl (by decide) rfl (fun _=>rfl) (Nat.zero_le _) ⟨⟨_,rfl,rfl⟩,⟨_,rfl,rfl⟩,trivial⟩ ?_
 conv=>whnf
 refine⟨rfl,?_⟩
 rintro i hi
 have k2:=hl.cl i
 have k3:=k2.each; have k4:=k2.some
 conv=>whnf
 refine⟨fun h3=>?_,fun h3=>?_⟩
 ·have hi':i<l.length:=by simpa using h3
  conv=>whnf
  refine .mk (by simp only[Rw.rng] at *; first|omega|(simp_all; done)|(simp_all; omega)) ?_
  conv=>whnf
  refine⟨fun h4=>?_,fun h4=>?_⟩
  ·have h4':0<(l.getD i default).some.length:=by have:=of_decide_eq_true h4; simp only[Int.toNat_natCast] at this; omega
   conv=>whnf
   repeat(refine VC.mk (by simp only[okI] at *; first|omega|(simp_all; done)|(simp_all; omega)) ?_; conv=>whnf)
   refine⟨i+1,by omega,by omega,⟨⟨_,rfl,rfl⟩,⟨_,rfl,?_⟩,trivial⟩,?_,rfl⟩
   ·rw[Iz hi',vF,if_pos h4']; rfl
   ·repeat' (first|exact trivial|exact⟨_,rfl,rfl⟩|constructor)
  ·have h4': ¬ 0<(l.getD i default).some.length:=by have:=of_decide_eq_false h4; simp only[Int.toNat_natCast] at this; omega
   conv=>whnf
   refine .mk (by simp only[okI] at *; first|omega|(simp_all; done)|(simp_all; omega)) ?_
   conv=>whnf
   refine⟨i+1,by omega,by omega,⟨⟨_,rfl,rfl⟩,⟨_,rfl,?_⟩,trivial⟩,?_,rfl⟩
   ·rw[Iz hi',vF,if_neg h4',Int.add_zero]; rfl
   ·repeat' (first|exact trivial|exact⟨_,rfl,rfl⟩|constructor)
 ·have hi':l.length<=i:=by simpa using h3
  rw[List.take_of_length_le hi']
  conv=>whnf
  exact aA.int rfl
def zK(p:aW)(l a:List Clause):Int:=bif pX p l !=0 then pX p l else pX p a
theorem NS{p:aW}{l:List Clause}{k:Clause}(h1:decide ((l.length:Int)>160)=false)(h:aQ (l.map (xR p))=xR p k):pX p l=xR p k:=by
 rw[pX,h1,h]; rfl
theorem S.zL(p:aW)(l:List Clause)(g f:Bool)(hp:dM p)(hl:SmallK l):au Tryz.prog 28 [.dat (.dw p),.pR 0 g [.row 4 f (.clauses l)]] (.int (pX p l)):=by
 have k1:=hl.len
 refine au.of Bd.iU (by simp) rfl rfl ?_
 conv=>whnf
 refine aJ.times 2 rfl ?_
 conv=>whnf
 refine Fork.mk (fun _=>?_) (fun q=>absurd (q.symm.trans (rfl)) Bool.false_ne_true)
 conv=>whnf
 refine .mk (by omega) ?_
 conv=>whnf
 refine⟨fun ha1=>?_,fun ha1=>?_⟩
 ·conv=>whnf
  exact aA.int (by rw[pX,ha1]; rfl)
 conv=>whnf
 refine aJ.same [1,2,10,11,12,19,20] (fun i:Nat=>[(21,.int i)]) (fun i=>i<=l.length/\aQ (l.map (xR p))=aQ ((l.drop i).map (xR p))) (fun i=>l.length-i) 0 rfl (by decide) rfl (fun _=>rfl) ⟨by omega,by simp⟩ ⟨⟨_,rfl,rfl⟩,trivial⟩ ?_
 conv=>whnf
 refine⟨rfl,?_⟩
 rintro i ⟨hia,hfa⟩
 conv=>whnf
 refine⟨fun Zf=>?_,fun Zf=>?_⟩
 ·have hi':i<l.length:=by simpa using Zf
  rw[Fv hi'] at hfa
  conv=>whnf
  refine .mk (by simp only[Rw.rng] at *; omega) ?_
  conv=>whnf
  refine ah.pure (S.dA p (l.getD i default) hp (hl.cl i)) rfl ?_
  conv=>whnf
  refine⟨fun h4=>?_,fun h4=>?_⟩
  ·conv=>whnf
   rw[show(xR p (l.getD i default) !=0)=true from h4] at hfa
   refine aA.int ?_
   exact(NS ha1 hfa).symm▸rfl
  ·conv=>whnf
   refine .mk (by simp only[okI] at *; omega) ?_
   conv=>whnf
   rw[show(xR p (l.getD i default) !=0)=false from h4] at hfa
   refine⟨i+1,⟨by omega,hfa⟩,by omega,⟨⟨_,rfl,rfl⟩,trivial⟩,?_,rfl⟩
   repeat' (first|exact trivial|exact⟨_,rfl,rfl⟩|constructor)
 have Zg:l.length<=i:=by simpa using Zf
 rw[List.drop_eq_nil_of_le Zg] at hfa
 have hza:pX p l=0:=by rw[pX,ha1,hfa]; rfl
 conv=>whnf
 refine .mk (by simp only[okI] at *; omega) ?_
 conv=>whnf
 refine Fork.mk (fun q=>absurd (q.symm.trans (rfl)).symm Bool.false_ne_true) (fun _=>?_)
 conv=>whnf
 exact aA.int (by rw[hza])
theorem S.Hl(p:aW)(l a:List Clause)(g f f':Bool)(hp:dM p)(hl:SmallK l)(ha:SmallK a):au Tryz.prog 28 [.dat (.dw p),.pR 0 g [.row 4 f (.clauses l),.row 4 f' (.clauses a)]] (.int (zK p l a)):=by
 have k1:=hl.len
 have k2:=ha.len
 refine au.of Bd.iU (by simp) rfl rfl ?_
 conv=>whnf
 refine aJ.times 3 rfl ?_
 conv=>whnf
 refine Fork.mk (fun _=>?_) (fun q=>absurd (q.symm.trans (rfl)) Bool.false_ne_true)
 conv=>whnf
 refine .mk (by omega) ?_
 conv=>whnf
 refine⟨fun ha1=>?_,fun ha1=>?_⟩
 ·conv=>whnf
  exact aA.int (by rw[zK,pX,ha1]; rfl)
 conv=>whnf
 refine aJ.same [1,2,10,11,12,19,20] (fun i:Nat=>[(21,.int i)]) (fun i=>i<=l.length/\aQ (l.map (xR p))=aQ ((l.drop i).map (xR p))) (fun i=>l.length-i) 0 rfl (by decide) rfl (fun _=>rfl) ⟨by omega,by simp⟩ ⟨⟨_,rfl,rfl⟩,trivial⟩ ?_
 conv=>whnf
 refine⟨rfl,?_⟩
 rintro i ⟨hia,hfa⟩
 conv=>whnf
 refine⟨fun Zf=>?_,fun Zf=>?_⟩
 ·have hi':i<l.length:=by simpa using Zf
  rw[Fv hi'] at hfa
  conv=>whnf
  refine .mk (by simp only[Rw.rng] at *; omega) ?_
  conv=>whnf
  refine ah.pure (S.dA p (l.getD i default) hp (hl.cl i)) rfl ?_
  conv=>whnf
  refine⟨fun h4=>?_,fun h4=>?_⟩
  ·conv=>whnf
   rw[show(xR p (l.getD i default) !=0)=true from h4] at hfa
   refine aA.int ?_
   rw[zK,NS ha1 hfa,show(xR p (l.getD i default) !=0)=true from h4]; rfl
  ·conv=>whnf
   refine .mk (by simp only[okI] at *; omega) ?_
   conv=>whnf
   rw[show(xR p (l.getD i default) !=0)=false from h4] at hfa
   refine⟨i+1,⟨by omega,hfa⟩,by omega,⟨⟨_,rfl,rfl⟩,trivial⟩,?_,rfl⟩
   repeat' (first|exact trivial|exact⟨_,rfl,rfl⟩|constructor)
 have Zg:l.length<=i:=by simpa using Zf
 rw[List.drop_eq_nil_of_le Zg] at hfa
 have hza:pX p l=0:=by rw[pX,ha1,hfa]; rfl
 conv=>whnf
 refine .mk (by simp only[okI] at *; omega) ?_
 conv=>whnf
 refine Fork.mk (fun _=>?_) (fun q=>absurd (q.symm.trans (rfl)) Bool.false_ne_true)
 conv=>whnf
 refine .mk (by omega) ?_
 conv=>whnf
 refine⟨fun hb1=>?_,fun hb1=>?_⟩
 ·conv=>whnf
  exact aA.int (by rw[zK,hza,pX,hb1]; rfl)
 conv=>whnf
 refine aJ.same [1,2,10,11,12,19,20] (fun i:Nat=>[(21,.int i)]) (fun i=>i<=a.length/\aQ (a.map (xR p))=aQ ((a.drop i).map (xR p))) (fun i=>a.length-i) 0 rfl (by decide) rfl (fun _=>rfl) ⟨by omega,by simp⟩ ⟨⟨_,rfl,rfl⟩,trivial⟩ ?_
 conv=>whnf
 refine⟨rfl,?_⟩
 rintro j ⟨hib,hfb⟩
 conv=>whnf
 refine⟨fun hb3=>?_,fun hb3=>?_⟩
 ·have hi':j<a.length:=by simpa using hb3
  rw[Fv hi'] at hfb
  conv=>whnf
  refine .mk (by simp only[Rw.rng] at *; omega) ?_
  conv=>whnf
  refine ah.pure (S.dA p (a.getD j default) hp (ha.cl j)) rfl ?_
  conv=>whnf
  refine⟨fun h4=>?_,fun h4=>?_⟩
  ·conv=>whnf
   rw[show(xR p (a.getD j default) !=0)=true from h4] at hfb
   refine aA.int ?_
   rw[zK,hza]; exact(NS hb1 hfb).symm▸rfl
  ·conv=>whnf
   refine .mk (by simp only[okI] at *; omega) ?_
   conv=>whnf
   rw[show(xR p (a.getD j default) !=0)=false from h4] at hfb
   refine⟨j+1,⟨by omega,hfb⟩,by omega,⟨⟨_,rfl,rfl⟩,trivial⟩,?_,rfl⟩
   repeat' (first|exact trivial|exact⟨_,rfl,rfl⟩|constructor)
 have ab8:a.length<=j:=by simpa using hb3
 rw[List.drop_eq_nil_of_le ab8] at hfb
 have hzb:pX p a=0:=by rw[pX,hb1,hfb]; rfl
 conv=>whnf
 refine .mk (by simp only[okI] at *; omega) ?_
 conv=>whnf
 refine Fork.mk (fun q=>absurd (q.symm.trans (rfl)).symm Bool.false_ne_true) (fun _=>?_)
 conv=>whnf
 exact aA.int (by rw[zK,hza,hzb]; rfl)
def eX(l:List Clause)(e:Elem):Nat:=l.findIdx fun k=> !holdsB k e
def iM(l:List Clause)(e:Elem):Bool:=l.all fun k=>holdsB k e
theorem NT{α:Type}{l:List α}{p q:α->Bool}:l.findIdx (fun x=>p x||q x)=min (l.findIdx p) (l.findIdx q):=by
 induction l with
 |nil=>rfl
 |cons x r ih =>
  rw[List.findIdx_cons,List.findIdx_cons,List.findIdx_cons]
  cases p x<;>cases q x<;>simp only[Bool.or_true,Bool.or_false,cond_true,cond_false]<;>omega
theorem NU{α:Type}{l:List α}:l.findIdx (fun _=>false)=l.length:=by
 induction l with
 |nil=>rfl
 |cons x r ih=>rw[List.findIdx_cons,ih]; rfl
def Ae(l:List Clause)(es:List Elem):Nat:=es.foldl (fun m e=>min m (eX l e)) l.length
def Af(l:List Clause)(es:List Elem):Nat:=l.findIdx fun k=>es.any fun e=> !holdsB k e
theorem Uf{l:List Clause}{es:List Elem}:Ae l es=Af l es:=by
 have: ∀ (es:List Elem) (m:Nat),m<=l.length->es.foldl (fun m e=>min m (eX l e)) m=min m (Af l es):=by
  intro es
  induction es with
  |nil=>intro m hm; show m=min m (l.findIdx fun _=>false); rw[NU]; omega
  |cons e es ih =>
   intro m hm
   rw[List.foldl_cons,ih _ (by omega)]
   have:Af l (e::es)=min (eX l e) (Af l es):=NT
   rw[this]; omega
 rw[Ae,this es _ (Nat.le_refl _)]
 have:Af l es<=l.length:=List.findIdx_le_length
 omega
theorem Ug{l:List Clause}{es:List Elem}:Af l es<=l.length:=List.findIdx_le_length
theorem QH{l:List Clause}{es:List Elem}{i:Nat}(hi:i<es.length):Ae l (es.take (i+1))=min (Ae l (es.take i)) (eX l (es.getD i default)):=by
 unfold Ae
 rw[List.take_add_one,List.foldl_append]; simp[hi]
def orM(n m:Nat):Int:=bif m==n then -1 else m
def stepG(fire:Elem->Option Elem)(l a:List Clause)(s:Nat×Elem)(e:Elem):Nat×Elem :=
 match fire e with
 |none=>s
 |some x=>bif iM l e&&iM a e&&(decide (eX l x<l.length)&&(decide (eX l x<s.1)||eX l x==s.1&&decide (pY e<pY s.2))) then(eX l x,e) else s
def IB(fire:Elem->Option Elem)(l a:List Clause)(es:List Elem):Nat×Elem:=es.foldl (stepG fire l a) (l.length,⟨0,[]⟩)
theorem Fz{α β:Type}{f:β->α->β}{b:β}{es:List α}{i:Nat}{d:α}(hi:i<es.length):(es.take (i+1)).foldl f b=f ((es.take i).foldl f b) (es.getD i d):=by
 rw[List.take_add_one,List.foldl_append]; simp[hi]
theorem Uh{fire:Elem->Option Elem}{l a:List Clause}{s:Nat×Elem}{e:Elem}(h:s.1<=l.length):(stepG fire l a s e).1<=l.length:=by
 unfold stepG
 split
 ·exact h
 ·cases hc:(iM l e&&iM a e&&(decide (eX l _<l.length)&&(decide (eX l _<s.1)||eX l _==s.1&&decide (pY e<pY s.2)))) with
  |false=>exact h
  |true=>exact List.findIdx_le_length
theorem KY{fire:Elem->Option Elem}{l a:List Clause}{es:List Elem}:(IB fire l a es).1<=l.length:=by
 have: ∀ (es:List Elem) (s:Nat×Elem),s.1<=l.length->(es.foldl (stepG fire l a) s).1<=l.length:=by
  intro es
  induction es with
  |nil=>intro s h; exact h
  |cons e es ih=>intro s h; exact ih _ (Uh h)
 exact this es _ (Nat.le_refl _)
def zB(bad:Elem->Bool)(l:List Clause)(s:Option Elem)(e:Elem):Option Elem :=
 bif bad e&&(iM l e&&(s.isNone||decide (pY e<pY (s.getD ⟨0,[]⟩)))) then some e else s
def WW(bad:Elem->Bool)(l:List Clause)(es:List Elem):Option Elem:=es.foldl (zB bad l) none
theorem Ui{bad:Elem->Bool}{l:List Clause}{es:List Elem}{x:Elem}(h:WW bad l es=some x):x∈es:=by
 have: ∀ (es:List Elem) (s:Option Elem) (x:Elem),es.foldl (zB bad l) s=some x->s=some x\/x∈es:=by
  intro es
  induction es with
  |nil=>intro s x h; exact .inl h
  |cons e es ih =>
   intro s x h
   rw[List.foldl_cons] at h
   rcases ih _ x h with h|h
   ·unfold zB at h
    cases hc:(bad e&&(iM l e&&(s.isNone||decide (pY e<pY (s.getD ⟨0,[]⟩))))) with
    |false=>rw[hc] at h; exact .inl h
    |true=>rw[hc] at h; cases h; exact .inr (by simp)
   ·exact .inr (List.mem_cons_of_mem _ h)
 rcases this es none x h with h|h
 ·cases h
 ·exact h
theorem QI{l a:List Clause}{e:Elem}:iM (l++a) e=(iM l e&&iM a e):=by simp[iM]
theorem rV{l:List Clause}{e:Elem}:(lC l e).length=l.length:=by simp[lC]
theorem KZ{l a:List Clause}{e:Elem}:(lC (l++a) e).take l.length=lC l e:=by
 simp[lC]
theorem PD{l:List Clause}{e:Elem}:(lC l e).all id=iM l e:=by
 simp[lC,iM,List.all_map,Function.comp_def]
theorem QJ{l:List Clause}{e:Elem}:(lC l e).findIdx (fun b=> !b)=eX l e:=by
 unfold lC eX
 induction l with
 |nil=>rfl
 |cons k l ih=>rw[List.map_cons,List.findIdx_cons,List.findIdx_cons,ih]
theorem getM{α:Type}{l:List α}{i:Nat}{d:α}(hi:i<l.length):l.getD i d∈l:=by
 rw[show l.getD i d=l[i] by simp[hi]]; exact List.getElem_mem hi
theorem Ef.g{c:List Int}(h:Ef c)(i:Nat):0<=c.getD i 0/\c.getD i 0<=1048576:=by
 by_cases hi:i<c.length
 ·exact h.get hi
 ·rw[show c.getD i 0=0 by simp[List.getD_eq_getElem?_getD,List.getElem?_eq_none (by omega:c.length<=i)]]; omega
structure aa0(k:Clause)(e:Elem):Prop where
 cl: ∃ vals,Hg e.counts.length vals k
 ok:Ef e.counts
 len:e.counts.length<=6
theorem DY.len{n:Nat}: ∀ {l:List Int},DY n l->l.length<=n:=by
 intro l h
 have: ∀ (l:List Int) (b:Int),(∀ x∈l,b<=x/\x<n)->l.Pairwise (· < ·)->(l.length:Int)<=n-b\/l=[]:=by
  intro l
  induction l with
  |nil=>intro b _ _; exact .inr rfl
  |cons x r ih =>
   intro b hb hp
   have h1:=hb x (by simp)
   rw[List.pairwise_cons] at hp
   rcases ih (x+1) (fun y hy=>⟨by have:=hp.1 y hy; omega,(hb y (List.mem_cons_of_mem _ hy)).2⟩) hp.2 with h2|h2
   ·left; rw[List.length_cons]; omega
   ·left; subst h2; simp only[List.length_cons,List.length_nil]; omega
 rcases this l 0 h.1 h.2 with h2|h2
 ·omega
 ·subst h2; simp
theorem DY.place{n:Nat}{l:List Int}(h:DY n l):rF n l:=h.1
def oJ(starts:List Int)(e:Elem):Bool:= !(WR e.counts starts)&&(e.value==0)
abbrev zM(l:List (List Int)):OV:=.row 24 0 (.iF l) []
theorem QK(l:List (List Int)):T.dD (l.map Go.Ab.ints)=true:=by
 rw[gU]; intro t ht; obtain⟨x,_,rfl⟩:=List.mem_map.1 ht; rfl
theorem Uj{h:Hz}{j:Nat}{Z:Nat->Prop}{l:List (List Int)}(hz:Z j)(q:h.get j=some (zM l)):T.sub Z h.aj (V.row 0 false (.iF l)).aG (V.own j).aG:=by
 show T.sub Z h.aj (.sl 0 false (l.map Go.Ab.ints)) (.own j)
 simp only[T.sub]
 refine⟨trivial,hz,QK l,by decide,24,?_⟩
 have:=aK q; simpa [OV.aC,Rw.aT,V.aT] using this
theorem aA.Yz{h:Hz}{j:Nat}{l:List (List Int)}(q:h.get j=some (zM l)):aA (.row 0 false (.iF l)) (.own j) h:=⟨Uj trivial q⟩
abbrev qg(l:List Elem):OV:=.row 55 3 (.elems l) []
theorem YA{h:Hz}{j:Nat}{l:List Elem}{Z:Nat->Prop}(hz:Z j)(q:h.get j=some (qg l)):T.sub Z h.aj (V.row 3 false (.elems l)).aG (V.own j).aG:=by
 show T.sub Z h.aj (.sl 3 false (l.map rQ)) (.own j)
 simp only[T.sub]
 refine⟨trivial,hz,Ag l,by decide,55,?_⟩
 have:=aK q; simpa [OV.aC,Rw.aT,V.aT] using this
theorem aA.ab9{h:Hz}{j:Nat}{l:List Elem}(q:h.get j=some (qg l)):aA (.row 3 false (.elems l)) (.own j) h:=⟨YA trivial q⟩
theorem aa1{Z:Nat->Prop}{h:Hz}{j:Nat}{v:Int}{l:List Int}(hz:Z j)(q:h.get j=some (ku l)):T.sub Z h.aj (rQ ⟨v,l⟩) (.agg [.int v,.own j]):=by
 have:=KR hz q
 show T.sub Z h.aj (.agg [.int v,.sl 0 false (l.map T.int)]) (.agg [.int v,.own j])
 replace this:T.sub Z h.aj (.sl 0 false (l.map T.int)) (.own j):=this
 simp only[T.sub] at this
 simp only[T.sub,T.cu]
 exact⟨trivial,this,trivial⟩
theorem La{Z:Nat->Prop}{h:Hz}{i j:Nat}{l:List Elem}{e:Elem}(q:h.get i=some (.row 55 3 (.elems l) [.agg [.int e.value,.own j]]))(hi: ¬ Z i)(hz:Z j)(qj:h.get j=some (ku e.counts)) :
  ∃ o',h.get i=some o'/\ ¬ Z i/\o'.aC.ty=(qg (l++[e])).aC.ty/\o'.aC.k=(qg (l++[e])).aC.k/\T.cu Z h.aj (qg (l++[e])).aC.l o'.aC.l/\(qg (l++[e])).aC.l.map T.kd=o'.aC.l.map T.kd/\(qg (l++[e])).aC.l.map fD=o'.aC.l.map fD:=by
 have e1:(qg (l++[e])).aC.l=l.map rQ++[rQ e]:=by simp[OV.aC,Rw.aT,V.aT]
 refine⟨_,q,hi,rfl,rfl,?_,?_,?_⟩
 ·rw[e1]
  exact og (bC _) ⟨aa1 hz qj,trivial⟩
 ·rw[e1]; show _=List.map T.kd (l.map rQ++[.agg [.int e.value,.own j]])
  rw[List.map_append,List.map_append]; rfl
 ·rw[e1]; show _=List.map fD (l.map rQ++[.agg [.int e.value,.own j]])
  rw[List.map_append,List.map_append]; rfl
theorem yZ{b n:Nat}(hb:b<=9)(hn:n<=6):b^n<=531441:=Nat.le_trans (Nat.pow_le_pow_left hb n) (Nat.le_trans (Nat.pow_le_pow_right (by decide) hn) (by decide))
end Go.Proofs.YtbfhebmdcpmfaaaGreatDoor
