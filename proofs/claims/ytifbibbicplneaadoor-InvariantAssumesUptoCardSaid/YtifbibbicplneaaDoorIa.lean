/-
 A part of the proof. No condition.
-/
import Derived.Test.YtifbibbicplneaaDoorLf
import Derived.Test.YtifbibbicplneaaDoorFa
namespace Go.Proofs.YtifbibbicplneaaDoor
open Go.Ab Go.Proofs
set_option maxRecDepth 100000
def gX(c:List Int)(x:Int):List Int:=c.set x.toNat (c.getD x.toNat 0-1)
def qV:List (List Int)->List Int->List Int->Bool
 |[],l,c=>l.any fun x=>decide (c.getD x.toNat 0>0)
 |s::r,l,c=>s.all fun x=>c.getD x.toNat 0==0||qV r l (gX c x)
def Tm(k:Clause)(v:Int):Bool:=decide ((k.values.length:Int)>0)&& !(k.values.any fun y=>v==y)
def holdsB(k:Clause)(e:Elem):Bool:=Tm k e.value||qV k.each k.some e.counts
def CP(n:Nat)(l:List Int):Prop:=(∀ x∈l,0<=x/\x<n)/\l.Pairwise (· < ·)
structure yg(n vals:Nat)(k:Clause):Prop where
 two:k.each.length<=2
 each: ∀ s∈k.each,CP n s/\s≠[]
 values:CP vals k.values
 some:CP n k.some
theorem zK{c:List Int}{a b:Int}(ha:0<=a/\a<c.length)(hb:0<=b):(gX c a).getD b.toNat 0=c.getD b.toNat 0-(if b=a then 1 else 0):=by
 unfold gX
 by_cases e:b=a
 ·subst e
  have:b.toNat<c.length:=by omega
  rw[if_pos rfl]
  simp[this]
 ·rw[if_neg e]
  have hne:a.toNat≠b.toNat:=by omega
  simp[List.getD_eq_getElem?_getD,List.getElem?_set_ne hne]
theorem yQ{α:Type}{l:List α}{p q:α->Bool}(h: ∀ x∈l,p x=q x):l.all p=l.all q:=by
 induction l with
 |nil=>rfl
 |cons x r ih=>rw[List.all_cons,List.all_cons,h x (by simp),ih fun y hy=>h y (List.mem_cons_of_mem _ hy)]
theorem Ef{α:Type}{l:List α}{p q:α->Bool}(h: ∀ x∈l,p x=q x):l.any p=l.any q:=by
 induction l with
 |nil=>rfl
 |cons x r ih=>rw[List.any_cons,List.any_cons,h x (by simp),ih fun y hy=>h y (List.mem_cons_of_mem _ hy)]
theorem MO{c:List Int}(h: ∀ x∈c,0<=x)(i:Nat):0<=c.getD i 0:=by
 by_cases hi:i<c.length
 ·rw[show c.getD i 0=c[i] by simp[hi]]; exact h _ (List.getElem_mem hi)
 ·rw[show c.getD i 0=0 by simp[List.getD_eq_getElem?_getD,List.getElem?_eq_none (by omega:c.length<=i)]]; omega
def ku(r:Int)(c d:List Int):Prop:=c.length=d.length/\ ∀ i,0<=c.getD i 0/\0<=d.getD i 0/\min (c.getD i 0) r=min (d.getD i 0) r
theorem Eh{l:List Int}: ∀ {each:List (List Int)} {r:Int} {c d:List Int},ku r c d->(each.length:Int)+(if 0<l.length then 1 else 0)<=r->(∀ s∈each,∀ x∈s,0<=x/\x<c.length)->qV each l c=qV each l d:=by
 intro each
 induction each with
 |nil =>
  intro r c d h hr _
  cases l with
  |nil=>rfl
  |cons y l =>
   simp only[List.length_cons,if_pos (Nat.succ_pos _),List.length_nil] at hr
   refine Ef fun x _=>decide_eq_decide.2 ?_
   have:=h.2 x.toNat
   constructor<;>intro g<;>omega
 |cons s each ih =>
  intro r c d h hr hs
  simp only[List.length_cons] at hr
  have hr1:1<=r:=by split at hr<;>omega
  show(s.all fun x=>c.getD x.toNat 0==0||qV each l (gX c x))=s.all fun x=>d.getD x.toNat 0==0||qV each l (gX d x)
  refine yQ fun x hx=>?_
  have hxs:=hs s (by simp) x hx
  have hxd:0<=x/\x<d.length:=by rw[<- h.1]; exact hxs
  obtain⟨a1,a2,a3⟩:=h.2 x.toNat
  by_cases hz:c.getD x.toNat 0=0
  ·have:d.getD x.toNat 0=0:=by omega
   rw[hz,this]; rfl
  ·have hd:d.getD x.toNat 0≠0:=by omega
   rw[beq_eq_false_iff_ne.2 hz,beq_eq_false_iff_ne.2 hd,Bool.false_or,Bool.false_or]
   refine ih (r:=r-1) ⟨by simp[gX,h.1],fun i=>?_⟩ (by omega) fun t ht y hy=>by
    have:=hs t (List.mem_cons_of_mem _ ht) y hy
    simpa [gX] using this
   have gi:=h.2 i
   have t1:=zK (c:=c) (b:=(i:Int)) hxs (by omega)
   have t2:=zK (c:=d) (b:=(i:Int)) hxd (by omega)
   simp only[Int.toNat_natCast] at t1 t2
   rw[t1,t2]
   by_cases e:(i:Int)=x
   ·have e':x.toNat=i:=by omega
    rw[e'] at hz hd
    rw[if_pos e]; omega
   ·rw[if_neg e]; omega
def mW(k:Clause):Int:=(k.each.length:Int)+(if 0<k.some.length then 1 else 0)
def aU(l:List Clause):Int:=l.foldl (fun r k=>max r (mW k)) 0
def iH(r:Int)(c:List Int):List Int:=c.map fun x=>min x r
def iQ(r:Int)(e:Elem):Elem:=⟨e.value,iH r e.counts⟩
def wF(r:Int)(v:Int)(c:List Int):Int:=c.foldl (fun k x=>k*(r+1)+min x r) v
def keyE(r:Int)(e:Elem):Int:=wF r e.value e.counts
def kK(l:List Clause)(e:Elem):List Bool:=l.map fun k=>holdsB k e
theorem Iy{r:Int}{c:List Int}(hr:0<=r){i:Nat}:(iH r c).getD i 0=min (c.getD i 0) r:=by
 by_cases hi:i<c.length
 ·simp[iH,hi]
 ·rw[show(iH r c).getD i 0=0 by simp[iH,List.getD_eq_getElem?_getD,List.getElem?_eq_none (by omega:c.length<=i)],show c.getD i 0=0 by simp[List.getD_eq_getElem?_getD,List.getElem?_eq_none (by omega:c.length<=i)]]; omega
theorem Ei{l:List Clause}: ∀ {r:Int},r<=l.foldl (fun r k=>max r (mW k)) r/\ ∀ k∈l,mW k<=l.foldl (fun r k=>max r (mW k)) r:=by
 induction l with
 |nil=>intro r; exact⟨by simp,fun k h=>by cases h⟩
 |cons x l ih =>
  intro r
  have:=@ih (max r (mW x))
  rw[List.foldl_cons]
  refine⟨by omega,fun k hk=>?_⟩
  rcases List.mem_cons.1 hk with rfl|hk
  ·omega
  ·exact this.2 k hk
theorem xE{l:List Clause}{k:Clause}(h:k∈l):mW k<=aU l:=Ei.2 k h
theorem rX{l:List Clause}:0<=aU l:=Ei.1
theorem qP{l:List Clause}(h: ∀ k∈l,k.each.length<=2):aU l<=3:=by
 have: ∀ (l:List Clause) (r:Int),r<=3->(∀ k∈l,k.each.length<=2)->l.foldl (fun r k=>max r (mW k)) r<=3:=by
  intro l
  induction l with
  |nil=>intro r hr _; exact hr
  |cons x l ih =>
   intro r hr h
   rw[List.foldl_cons]
   refine ih _ ?_ fun k hk=>h k (List.mem_cons_of_mem _ hk)
   have:=h x (by simp)
   unfold mW
   split<;>omega
 exact this l 0 (by omega) h
theorem xC{n vals:Nat}{k:Clause}{e:Elem}{r:Int}(hk:yg n vals k)(hn:e.counts.length=n)(hc: ∀ x∈e.counts,0<=x)(hr:mW k<=r):holdsB k (iQ r e)=holdsB k e:=by
 have hr0:0<=r:=by unfold mW at hr; split at hr<;>omega
 unfold holdsB iQ
 congr 1
 refine Eh (r:=r) ⟨by simp[iH],fun i=>?_⟩ hr fun s hs x hx=>by
  have:=(hk.each s hs).1.1 x hx
  simpa [iH,hn] using this
 have:=MO hc i
 rw[Iy hr0]; omega
theorem key_inj{r:Int}(hr:0<=r): ∀ {n:Nat} {v w:Int} {c d:List Int},c.length=n->d.length=n->(∀ x∈c,0<=x)->(∀ x∈d,0<=x)->wF r v c=wF r w d->v=w/\iH r c=iH r d:=by
 intro n
 induction n with
 |zero =>
  intro v w c d hc hd _ _ h
  have:c=[]:=List.eq_nil_of_length_eq_zero hc
  subst this
  have:d=[]:=List.eq_nil_of_length_eq_zero hd
  subst this
  exact⟨h,rfl⟩
 |succ n ih =>
  intro v w c d hc hd pc pd h
  have e1:c≠[]:=by intro e; subst e; simp at hc
  have e2:d≠[]:=by intro e; subst e; simp at hd
  obtain⟨c',x,rfl⟩: ∃ c' x,c=c'++[x]:=⟨_,_,(List.dropLast_concat_getLast e1).symm⟩
  obtain⟨d',y,rfl⟩: ∃ d' y,d=d'++[y]:=⟨_,_,(List.dropLast_concat_getLast e2).symm⟩
  simp only[wF,List.foldl_append,List.foldl_cons,List.foldl_nil] at h
  have hx:=pc x (by simp)
  have hy:=pd y (by simp)
  have hb: ∀ {a b p q:Int},a*(r+1)+p=b*(r+1)+q->0<=p->p<=r->0<=q->q<=r->a=b/\p=q:=by
   intro a b p q h p1 p2 q1 q2
   have hab:(a-b)*(r+1)=q-p:=by rw[Int.sub_mul]; omega
   rcases Int.lt_trichotomy a b with g|g|g
   ·exfalso
    have:(b-a)*(r+1)>=1*(r+1):=Int.mul_le_mul_of_nonneg_right (by omega) (by omega)
    have e:(b-a)*(r+1)= -((a-b)*(r+1)):=by rw[<- Int.neg_mul]; congr 1; omega
    omega
   ·subst g; simp at hab; omega
   ·exfalso
    have:(a-b)*(r+1)>=1*(r+1):=Int.mul_le_mul_of_nonneg_right (by omega) (by omega)
    omega
  obtain⟨h1,h2⟩:=hb h (by omega) (by omega) (by omega) (by omega)
  obtain⟨h3,h4⟩:=ih (by simpa using hc) (by simpa using hd) (fun z hz=>pc z (by simp[hz])) (fun z hz=>pd z (by simp[hz])) h1
  refine⟨h3,?_⟩
  unfold iH at h4 ⊢
  rw[List.map_append,List.map_append,h4]; simp[h2]
structure Qk(n:Nat)(e:Elem):Prop where
 len:e.counts.length=n
 nn: ∀ x∈e.counts,0<=x
theorem VA{n vals:Nat}{l:List Clause}{e f:Elem}(hl: ∀ k∈l,yg n vals k)(he:Qk n e)(hf:Qk n f)(h:keyE (aU l) e=keyE (aU l) f):kK l e=kK l f:=by
 obtain⟨h1,h2⟩:=key_inj rX he.len hf.len he.nn hf.nn h
 refine List.map_congr_left fun k hk=>?_
 rw[<- xC (hl k hk) he.len he.nn (xE hk),<- xC (hl k hk) hf.len hf.nn (xE hk)]
 unfold iQ
 rw[h1,h2]
theorem VB{n vals:Nat}{l:List Clause}{e:Elem}(hl: ∀ k∈l,yg n vals k)(he:Qk n e):kK l (iQ (aU l) e)=kK l e :=
 List.map_congr_left fun k hk=>xC (hl k hk) he.len he.nn (xE hk)
def kZ(n:Nat)(l:List Clause)(es:List (Int×List Bool)):Prop:= ∀ e,Qk n e-> ∀ row,tK (keyE (aU l) e) es=some row->row=kK l e
theorem kZ.nil{n:Nat}{l:List Clause}:kZ n l []:=fun e _ row h=>by cases h
theorem Tn{k:Int}{p:Int×List Bool}: ∀ {es:List (Int×List Bool)} {row:List Bool},tK k (es++[p])=some row->tK k es=some row\/(k=p.1/\row=p.2):=by
 intro es
 induction es with
 |nil =>
  intro row h
  obtain⟨a,b⟩:=p
  simp only[List.nil_append,tK] at h
  cases hb:k==a with
  |true=>rw[hb] at h; cases h; exact .inr ⟨beq_iff_eq.1 hb,rfl⟩
  |false=>rw[hb] at h; cases h
 |cons q es ih =>
  obtain⟨a,b⟩:=q
  intro row h
  simp only[List.cons_append,tK] at h ⊢
  cases hb:k==a with
  |true=>rw[hb] at h; exact .inl h
  |false=>rw[hb] at h; exact ih h
theorem kZ.add{n vals:Nat}{l:List Clause}{es:List (Int×List Bool)}{e:Elem}(h:kZ n l es)(hl: ∀ k∈l,yg n vals k)(he:Qk n e):kZ n l (es++[(keyE (aU l) e,kK l e)]):=by
 intro f hf row hr
 rcases Tn hr with hr|⟨h1,rfl⟩
 ·exact h f hf row hr
 ·exact VA hl he hf h1.symm
def jl(b:Nat):Nat->Nat->List Int
 |0,_=>[]
 |n+1,v=>jl b n (v / b)++[((v % b:Nat):Int)]
theorem eX{b:Nat}: ∀ {n v:Nat},(jl b n v).length=n:=by
 intro n
 induction n with
 |zero=>intro v; rfl
 |succ n ih=>intro v; simp[jl,ih]
theorem JX{b:Nat}(hb:0<b): ∀ {n v:Nat},∀ x∈jl b n v,0<=x/\x<b:=by
 intro n
 induction n with
 |zero=>intro v x h; cases h
 |succ n ih =>
  intro v x h
  rcases List.mem_append.1 h with h|h
  ·exact ih x h
  ·rw[List.mem_singleton] at h; subst h
   have:=Nat.mod_lt v hb
   omega
theorem Ej{b n u:Nat}(hb:0<b): ∀ {k:Nat},jl b (n+k) (u*b^k)=jl b n u++List.replicate k 0:=by
 intro k
 induction k with
 |zero=>simp
 |succ k ih =>
  rw[<- Nat.add_assoc]
  simp only[jl]
  rw[Nat.pow_succ,<- Nat.mul_assoc,Nat.mul_div_cancel _ hb,ih,Nat.mul_mod_left,List.append_assoc,List.replicate_succ']
  rfl
theorem Bc{b n:Nat}(hb:0<b):jl b n 0=List.replicate n 0:=by
 have:=@Ej b 0 0 hb n
 simpa [jl] using this
theorem Tq{b:Nat}(hb:0<b): ∀ {n v:Nat},v<b^n->v≠0->0<(jl b n v).sum:=by
 intro n
 induction n with
 |zero=>intro v h h0; simp at h; omega
 |succ n ih =>
  intro v h h0
  simp only[jl,List.sum_append,List.sum_singleton]
  have hnn:0<=(jl b n (v / b)).sum:=by
   have: ∀ l:List Int,(∀ x∈l,0<=x)->0<=l.sum:=by
    intro l
    induction l with
    |nil=>intro _; simp
    |cons x l ih=>intro h; have:=h x (by simp); have:=ih fun y hy=>h y (by simp[hy]); simp only[List.sum_cons]; omega
   exact this _ fun x hx=>(JX hb x hx).1
  by_cases hd:v / b=0
  ·have h1:v<b:=by rcases Nat.div_eq_zero_iff.1 hd with h|h<;>omega
   have:v % b=v:=Nat.mod_eq_of_lt h1
   omega
  ·have:v / b<b^n:=by
    rw[Nat.div_lt_iff_lt_mul hb,<- Nat.pow_succ]; exact h
   have:=ih this hd
   omega
def qh(b n v k:Nat):List Int:=jl b (n-k) (v / b^k)++List.replicate k 0
theorem GN{b n v k:Nat}(h:k<=n):(qh b n v k).length=n:=by simp[qh,eX]; omega
theorem Em{b n v:Nat}:qh b n v 0=jl b n v:=by simp[qh]
theorem mX{b n v k:Nat}(h:k<n):qh b n v k=jl b (n-k-1) (v / b^k / b)++(((v / b^k % b:Nat):Int)::List.replicate k 0):=by
 unfold qh
 obtain⟨j,hj⟩: ∃ j,n-k=j+1:=⟨n-k-1,by omega⟩
 rw[hj,jl,List.append_assoc]; rfl
theorem En{b n v k:Nat}(_h:k<n):qh b n v (k+1)=jl b (n-k-1) (v / b^k / b)++((0:Int)::List.replicate k 0):=by
 unfold qh
 rw[Nat.pow_succ,<- Nat.div_div_eq_div_mul,Nat.sub_add_eq,List.replicate_succ]
theorem OI{a b:Nat}(hb:0<b)(h:a % b+1≠b):(a+1) / b=a / b/\(a+1) % b=a % b+1:=by
 have h1:=Nat.mod_lt a hb
 have h2:=Nat.div_add_mod a b
 have e:a+1=(a % b+1)+b*(a / b):=by omega
 have h3:a % b+1<b:=by omega
 constructor
 ·rw[e,Nat.add_mul_div_left _ _ hb,Nat.div_eq_of_lt h3]; omega
 ·rw[e,Nat.add_mul_mod_self_left,Nat.mod_eq_of_lt h3]
theorem Tt{a b:Nat}(_hb:0<b)(h:a % b+1=b):(a / b+1)*b=a+1:=by
 have h2:=Nat.div_add_mod a b
 rw[Nat.succ_mul,Nat.mul_comm]; omega
theorem GR{b n v k:Nat}(hb:0<b)(h:k<n)(h3:v / b^k % b+1≠b)(hv:v+1=(v / b^k+1)*b^k):jl b (n-k-1) (v / b^k / b)++((((v / b^k % b:Nat):Int)+1)::List.replicate k 0)=jl b n (v+1):=by
 have e:jl b n (v+1)=jl b ((n-k-1+1)+k) ((v / b^k+1)*b^k):=by rw[<- hv]; congr 1; omega
 obtain⟨m1,m2⟩:=OI hb h3
 rw[e,Ej hb,jl,List.append_assoc,m1,m2]
 rfl
theorem Eo{b v k:Nat}(hb:0<b)(h3:v / b^k % b+1=b)(hv:v+1=(v / b^k+1)*b^k):v+1=(v / b^(k+1)+1)*b^(k+1):=by
 have e:v / b^(k+1)=v / b^k / b:=by rw[Nat.pow_succ,<- Nat.div_div_eq_div_mul]
 rw[e,Nat.pow_succ,Nat.mul_comm (b^k) b,<- Nat.mul_assoc,Tt hb h3]
 exact hv
theorem OJ{b n v k:Nat}(hb:0<b)(h:k<n)(hlt:v<b^n)(h3:v / b^k % b+1≠b)(hv:v+1=(v / b^k+1)*b^k):v+1<b^n:=by
 have e:b^n=b^(n-k-1)*b*b^k:=by
  rw[<- Nat.pow_succ,<- Nat.pow_add]; congr 1; omega
 have h1:v / b^k<b^(n-k-1)*b:=by
  rw[Nat.div_lt_iff_lt_mul (Nat.pow_pos hb),<- e]; exact hlt
 have h2:v / b^k+1<b^(n-k-1)*b:=by
  rcases Nat.lt_or_ge (v / b^k+1) (b^(n-k-1)*b) with g|g
  ·exact g
  ·exfalso
   have e2:v / b^k+1=b^(n-k-1)*b:=by omega
   have m:=(OI hb h3).2
   rw[e2,Nat.mul_mod_left] at m
   omega
 rw[hv,e]
 exact Nat.mul_lt_mul_of_pos_right h2 (Nat.pow_pos hb)
theorem JY{b n v:Nat}(hlt:v<b^n)(hv:v+1=(v / b^n+1)*b^n):v+1=b^n:=by
 rw[Nat.div_eq_of_lt hlt] at hv; omega
def sV(b n w u:Nat):List Elem:=(List.range u).map fun v=>⟨(w:Int),jl b n (v+1)⟩
def gY(b n vals:Nat):List Elem:=(List.range vals).flatMap fun w=>sV b n w (b^n-1)
theorem GU{b n w u:Nat}:sV b n w (u+1)=sV b n w u++[⟨(w:Int),jl b n (u+1)⟩]:=by
 unfold sV; rw[List.range_succ,List.map_append]; rfl
theorem Bf{b n w:Nat}:gY b n (w+1)=gY b n w++sV b n w (b^n-1):=by
 unfold gY; rw[List.range_succ,List.flatMap_append]; simp
theorem Ep{b n w u:Nat}:(sV b n w u).length=u:=by simp[sV]
theorem tN{b n vals:Nat}:(gY b n vals).length=vals*(b^n-1):=by
 induction vals with
 |zero=>simp[gY]
 |succ w ih=>rw[Bf,List.length_append,ih,Ep,Nat.succ_mul]
structure yA(b n vals:Nat)(e:Elem):Prop where
 len:e.counts.length=n
 rng: ∀ x∈e.counts,0<=x/\x<b
 val:0<=e.value/\e.value<vals
 pos:0<e.counts.sum
theorem xM{b n vals:Nat}(hb:0<b): ∀ e∈gY b n vals,yA b n vals e:=by
 intro e h
 obtain⟨w,hw,h2⟩:=List.mem_flatMap.1 h
 obtain⟨v,hv,rfl⟩:=List.mem_map.1 h2
 have:=List.mem_range.1 hw
 have:=List.mem_range.1 hv
 have hp:0<b^n:=Nat.pow_pos hb
 exact⟨eX,fun x hx=>JX hb x hx,⟨by show(0:Int)<=w; omega,by show(w:Int)<vals; omega⟩,Tq hb (by omega) (by omega)⟩
theorem Ql{b k:Nat}(hb:0<b)(hk:k<b): ∀ {m u:Nat},u<b^m->jl b (m+1) (k*b^m+u)=(k:Int)::jl b m u:=by
 intro m
 induction m with
 |zero =>
  intro u hu
  have h:u=0:=(by simpa using hu)
  subst h
  simp only[jl,Nat.pow_zero,Nat.mul_one,Nat.add_zero,List.nil_append]
  rw[Nat.mod_eq_of_lt hk]
 |succ m ih =>
  intro u hu
  rw[Nat.pow_succ] at hu
  have e:k*b^(m+1)=b*(k*b^m):=by rw[Nat.pow_succ,<- Nat.mul_assoc,Nat.mul_comm]
  rw[e,jl]
  rw[Nat.mul_add_div hb,Nat.mul_add_mod,ih (show u / b<b^m by rw[Nat.div_lt_iff_lt_mul hb]; exact hu),jl]
  rfl
structure sQ(k:Clause):Prop where
 each:k.each.length<2^30
 rows: ∀ i,(k.each.getD i []).length<2^30
 values:k.values.length<2^30
 some:k.some.length<2^30
structure SmallK(l:List Clause):Prop where
 len:l.length<2^30
 cl: ∀ i,sQ (l.getD i default)
def CG(p:aX):Int:=bif dU p==0&& !(kC p).monadic then 7 else dU p
def yN(p:aX)(q:Prop'):Int:=bif pz p q !=0 then pz p q else fA (CG p !=0||q.kind !=1) 7
def qW(n:Int)(s:List Int):Int:=bif iD s n !=0 then iD s n else fA ((s.length:Int)==0) 1
def xG(p:aX)(k:Clause):Int :=
 bif decide ((k.each.length:Int)>2) then 1 else
 bif bJ (k.each.map (qW p.states.length)) !=0 then bJ (k.each.map (qW p.states.length)) else
 bif iD k.values p.values.length !=0 then iD k.values p.values.length else iD k.some p.states.length
def lT(p:aX)(l:List Clause):Int:=bif decide ((l.length:Int)>160) then 4 else bJ (l.map (xG p))
theorem S.jI(l:List Int)(n:Int)(f:Bool)(hl:l.length<2^40):ay Tryd.prog 50 [.row 0 f (.ints l),.int n] (.int (iD l n)):=by
 refine ay.of Bd.jI (by simp) rfl rfl ?_
 conv=>whnf
 refine aY.same [0,1,8,9] (fun i:Nat=>[(10,.int i)]) (fun i=>i<=l.length/\(l.take i).any (fun i=>wB i n)=false) (fun i=>l.length-i) 0 rfl (by decide) rfl (fun _=>rfl) ⟨by omega,by simp⟩ ⟨⟨_,rfl,rfl⟩,trivial⟩ ?_
 conv=>whnf
 refine⟨rfl,?_⟩
 rintro i ⟨hi,hall⟩
 conv=>whnf
 refine⟨fun h3=>?_,fun h3=>?_⟩
 ·have hi':i<l.length:=by simpa using h3
  conv=>whnf
  repeat(refine VC.mk (by first|exact fun h=>⟨h,h⟩|(intro h; rw[h]; rfl)|(simp only[Rw.rng] at *; first|omega|(simp_all; done)|(simp_all; omega))) ?_; conv=>whnf)
  refine⟨fun h4=>?_,fun h4=>?_⟩
  ·conv=>whnf
   refine aB.int ?_
   rw[iD,uV (d:=0) hi' h4]; rfl
  ·conv=>whnf
   refine .mk (by simp only[okI] at *; first|omega|(simp_all; done)|(simp_all; omega)) ?_
   conv=>whnf
   refine⟨i+1,⟨by omega,?_⟩,by omega,⟨⟨_,rfl,rfl⟩,trivial⟩,?_,rfl⟩
   ·rw[zJ (d:=0) hi' hall]; exact h4
   ·repeat' (first|exact trivial|exact⟨_,rfl,rfl⟩|constructor)
 ·have hi':l.length<=i:=by simpa using h3
  rw[List.take_of_length_le hi'] at hall
  conv=>whnf
  refine aY.same [0] (fun i:Nat=>[(7,.int (i+1))]) (fun i=>(i<l.length\/i=0)/\Bg l=Bg (l.drop i)) (fun i=>l.length-i) 0 rfl (by decide) rfl (fun _=>rfl) ⟨by omega,by simp⟩ ⟨⟨_,rfl,rfl⟩,trivial⟩ ?_
  conv=>whnf
  refine⟨rfl,?_⟩
  rintro i ⟨hi,hinc⟩
  conv=>whnf
  refine⟨fun h5=>?_,fun h5=>?_⟩
  ·have hi1:i+1<l.length:=by have:=of_decide_eq_true h5; omega
   rw[bU 0 (show i<l.length by omega),bU 0 hi1] at hinc
   simp only[Bg] at hinc
   rw[<- bU 0 hi1] at hinc
   conv=>whnf
   repeat(refine VC.mk (by simp only[okI,Rw.rng] at *; first|omega|(simp_all; done)|(simp_all; omega)) ?_; conv=>whnf)
   refine⟨fun h6=>?_,fun h6=>?_⟩
   ·conv=>whnf
    refine aB.int ?_
    have e1:((i:Int)+1).toNat=i+1:=by omega
    have e2:((i:Int)+1-1).toNat=i:=by omega
    rw[e1,e2] at h6
    have h6':l.getD (i+1) 0<=l.getD i 0:=of_decide_eq_true h6
    rw[iD,hall,hinc,decide_eq_false (by omega)]; rfl
   ·conv=>whnf
    refine .mk (by simp only[okI] at *; first|omega|(simp_all; done)|(simp_all; omega)) ?_
    conv=>whnf
    have e1:((i:Int)+1).toNat=i+1:=by omega
    have e2:((i:Int)+1-1).toNat=i:=by omega
    rw[e1,e2] at h6
    have h6': ¬ l.getD (i+1) 0<=l.getD i 0:=of_decide_eq_false h6
    rw[decide_eq_true (by omega),Bool.true_and] at hinc
    refine⟨i+1,⟨by omega,hinc⟩,by omega,⟨⟨_,rfl,rfl⟩,trivial⟩,?_,rfl⟩
    repeat' (first|exact trivial|exact⟨_,rfl,rfl⟩|constructor)
  ·conv=>whnf
   refine aB.int ?_
   have h5': ¬ ((i:Int)+1<l.length):=of_decide_eq_false h5
   have:Bg l=true:=by
    rw[hinc]
    rcases hd:l.drop i with _|⟨a,_|⟨b,r⟩⟩
    ·rfl
    ·rfl
    ·have:=congrArg List.length hd
     simp only[List.length_drop,List.length_cons] at this
     omega
   rw[iD,hall,this]; rfl
theorem S.fC(p:aX)(hp:dP p):ay Tryd.prog 30 [.dat (.eG p)] (.int (CG p)):=by
 refine ay.of Bd.fC (by simp) rfl rfl ?_
 conv=>whnf
 refine ah.pure (S.gK p hp) rfl ?_
 conv=>whnf
 repeat(refine VC.mk id ?_; conv=>whnf)
 refine⟨fun h1=>?_,fun h1=>?_⟩
 ·conv=>whnf
  have h2:dU p=0:=by
   cases hv:(dU p==0) with
   |true=>exact beq_iff_eq.1 hv
   |false=>rw[hv] at h1; cases h1
  refine aB.int ?_
  rw[CG,h2]
  rw[show(bif (dU p !=0) then JZ else kC p)=kC p by rw[h2]; rfl] at h1
  rw[h2] at h1
  rw[show((0:Int)==0&& !(kC p).monadic)=true from h1]; rfl
 ·conv=>whnf
  refine aB.int ?_
  unfold CG
  cases hv:(dU p==0) with
  |false=>rfl
  |true =>
   rw[show(bif (dU p !=0) then JZ else kC p)=kC p by rw[beq_iff_eq.1 hv]; rfl,hv] at h1
   rw[show(true&& !(kC p).monadic)=false from h1]; rfl
theorem S.kL(p:aX)(q:Prop')(hp:dP p)(hq:nK q):ay Tryd.prog 25 [.dat (.eG p),.dat (.prop q)] (.int (yN p q)):=by
 refine ay.of Bd.kL (by simp) rfl rfl ?_
 conv=>whnf
 refine ah.pure (S.dD p q hp hq) rfl ?_
 conv=>whnf
 refine⟨fun h1=>?_,fun h1=>?_⟩
 ·conv=>whnf
  exact aB.int (by rw[yN,h1]; rfl)
 conv=>whnf
 refine ah.pure (S.fC p hp) rfl ?_
 conv=>whnf
 repeat(refine VC.mk (by first|exact id|(intro h; rw[h]; rfl)) ?_; conv=>whnf)
 refine⟨fun h2=>?_,fun h2=>?_⟩
 ·conv=>whnf
  exact aB.int (by rw[yN,h1,show(CG p !=0||q.kind !=1)=true by simpa using h2]; rfl)
 ·conv=>whnf
  exact aB.int (by rw[yN,h1,show(CG p !=0||q.kind !=1)=false by simpa using h2]; rfl)
theorem Es(a:Int)(r:List Int):bJ (a::r)=bif a !=0 then a else bJ r:=by
 by_cases h:a=0
 ·subst h; rfl
 ·rw[show(a !=0)=true by simp[h]]; simp[bJ,h]
theorem Qm{n:Int}{k:Clause}{i:Nat}(hi:i<k.each.length):bJ ((k.each.drop i).map (qW n))=bif qW n (k.each.getD i []) !=0 then qW n (k.each.getD i []) else bJ ((k.each.drop (i+1)).map (qW n)):=by
 rw[bU [] hi,List.map_cons,Es]
theorem Et{p:aX}{l:List Clause}{i:Nat}(hi:i<l.length):bJ ((l.drop i).map (xG p))=bif xG p (l.getD i default) !=0 then xG p (l.getD i default) else bJ ((l.drop (i+1)).map (xG p)):=by
 rw[bU default hi,List.map_cons,Es]
theorem S.cO(p:aX)(k:Clause)(hp:dP p)(hk:sQ k):ay Tryd.prog 31 [.dat (.eG p),.dat (.clause k)] (.int (xG p k)):=by
 have g1:=hp.states; have g2:=hp.values; have k1:=hk.each; have k2:=hk.values; have k3:=hk.some
 refine ay.of Bd.cO (by simp) rfl rfl ?_
 conv=>whnf
 refine⟨fun h1=>?_,fun h1=>?_⟩
 ·conv=>whnf
  exact aB.int (by rw[xG,h1]; rfl)
 conv=>whnf
 refine aY.same [2,3,14,15] (fun i:Nat=>[(16,.int i)]) (fun i=>i<=k.each.length/\bJ (k.each.map (qW p.states.length))=bJ ((k.each.drop i).map (qW p.states.length))) (fun i=>k.each.length-i) 0 rfl (by decide) rfl (fun _=>rfl) ⟨by omega,by simp⟩ ⟨⟨_,rfl,rfl⟩,trivial⟩ ?_
 conv=>whnf
 refine⟨rfl,?_⟩
 rintro i ⟨hi,hf⟩
 have k4:=hk.rows i
 conv=>whnf
 refine⟨fun h3=>?_,fun h3=>?_⟩
 ·have hi':i<k.each.length:=by simpa using h3
  rw[Qm hi'] at hf
  conv=>whnf
  refine .mk (by simp only[Rw.rng] at *; first|omega|(simp_all; done)|(simp_all; omega)) ?_
  conv=>whnf
  refine ah.pure (S.jI (k.each.getD i []) p.states.length false (by omega)) rfl ?_
  conv=>whnf
  refine⟨fun h4=>?_,fun h4=>?_⟩
  ·conv=>whnf
   refine aB.int ?_
   have e:qW p.states.length (k.each.getD i [])=iD (k.each.getD i []) p.states.length:=by rw[qW,show(iD (k.each.getD i []) p.states.length !=0)=true from h4]; rfl
   rw[e,show(iD (k.each.getD i []) p.states.length !=0)=true from h4,cond_true] at hf
   rw[xG,h1,hf,show(iD (k.each.getD i []) p.states.length !=0)=true from h4]; rfl
  ·have h4':(iD (k.each.getD i []) p.states.length !=0)=false:=h4
   have e:qW p.states.length (k.each.getD i [])=fA (((k.each.getD i []).length:Int)==0) 1:=by rw[qW,h4']; rfl
   rw[e] at hf
   conv=>whnf
   refine⟨fun h5=>?_,fun h5=>?_⟩
   ·conv=>whnf
    refine aB.int ?_
    rw[show(((k.each.getD i []).length:Int)==0)=true from h5] at hf
    rw[xG,h1,hf]; rfl
   ·conv=>whnf
    refine .mk (by simp only[okI] at *; first|omega|(simp_all; done)|(simp_all; omega)) ?_
    conv=>whnf
    rw[show(((k.each.getD i []).length:Int)==0)=false from h5] at hf
    refine⟨i+1,⟨by omega,hf⟩,by omega,⟨⟨_,rfl,rfl⟩,trivial⟩,?_,rfl⟩
    repeat' (first|exact trivial|exact⟨_,rfl,rfl⟩|constructor)
 ·have hi':k.each.length<=i:=by simpa using h3
  rw[List.drop_eq_nil_of_le hi'] at hf
  have hf0:bJ (k.each.map (qW p.states.length))=0:=hf
  conv=>whnf
  refine ah.pure (S.jI k.values p.values.length false (by omega)) rfl ?_
  conv=>whnf
  refine⟨fun h6=>?_,fun h6=>?_⟩
  ·conv=>whnf
   exact aB.int (by rw[xG,h1,hf0,show(iD k.values p.values.length !=0)=true from h6]; rfl)
  ·conv=>whnf
   refine ah.pure (S.jI k.some p.states.length false (by omega)) rfl ?_
   conv=>whnf
   exact aB.int (by rw[xG,h1,hf0,show(iD k.values p.values.length !=0)=false from h6]; rfl)
theorem S.dX(p:aX)(k:Clause)(hp:dP p)(hk:sQ k):ay Tryd.prog 22 [.dat (.eG p),.dat (.clause k)] (.int (bif CG p !=0 then CG p else xG p k)):=by
 refine ay.of Bd.dX (by simp) rfl rfl ?_
 conv=>whnf
 refine ah.pure (S.fC p hp) rfl ?_
 conv=>whnf
 refine⟨fun h1=>?_,fun h1=>?_⟩
 ·conv=>whnf
  exact aB.int (by rw[h1]; rfl)
 ·conv=>whnf
  refine ah.pure (S.cO p k hp hk) rfl ?_
  conv=>whnf
  exact aB.int (by rw[h1]; rfl)
theorem GV{l:List Clause}{i:Nat}(hi:i<l.length):aU (l.take (i+1))=max (aU (l.take i)) (mW (l.getD i default)):=by
 unfold aU
 rw[List.take_add_one,List.foldl_append]; simp[hi]
theorem S.jP(l:List Clause)(f:Bool)(hl:SmallK l):ay Tryd.prog 11 [.row 4 f (.clauses l)] (.int (aU l)):=by
 have k1:=hl.len
 refine ay.of Bd.jP (by simp) rfl rfl ?_
 conv=>whnf
 refine aY.same [7,8] (fun i:Nat=>[(9,.int i),(3,.int (aU (l.take i)))]) (fun i=>i<=l.length) (fun i=>l.length-i) 0 rfl (by decide) rfl (fun _=>rfl) (Nat.zero_le _) ⟨⟨_,rfl,rfl⟩,⟨_,rfl,rfl⟩,trivial⟩ ?_
 conv=>whnf
 refine⟨rfl,?_⟩
 rintro i hi
 have k2:=hl.cl i
 have k3:=k2.each; have k4:=k2.some
 conv=>whnf
 refine⟨fun h3=>?_,fun h3=>?_⟩
 ·have hi':i<l.length:=by simpa using h3
  conv=>whnf
  refine .mk (by simp only[Rw.rng] at *; first|omega|(simp_all; done)|(simp_all; omega)) ?_
  conv=>whnf
  refine⟨fun h4=>?_,fun h4=>?_⟩
  ·have h4':0<(l.getD i default).some.length:=by have:=of_decide_eq_true h4; simp only[Int.toNat_natCast] at this; omega
   conv=>whnf
   repeat(refine VC.mk (by simp only[okI] at *; first|omega|(simp_all; done)|(simp_all; omega)) ?_; conv=>whnf)
   refine⟨i+1,by omega,by omega,⟨⟨_,rfl,rfl⟩,⟨_,rfl,?_⟩,trivial⟩,?_,rfl⟩
   ·rw[GV hi',mW,if_pos h4']; rfl
   ·repeat' (first|exact trivial|exact⟨_,rfl,rfl⟩|constructor)
  ·have h4': ¬ 0<(l.getD i default).some.length:=by have:=of_decide_eq_false h4; simp only[Int.toNat_natCast] at this; omega
   conv=>whnf
   refine .mk (by simp only[okI] at *; first|omega|(simp_all; done)|(simp_all; omega)) ?_
   conv=>whnf
   refine⟨i+1,by omega,by omega,⟨⟨_,rfl,rfl⟩,⟨_,rfl,?_⟩,trivial⟩,?_,rfl⟩
   ·rw[GV hi',mW,if_neg h4',Int.add_zero]; rfl
   ·repeat' (first|exact trivial|exact⟨_,rfl,rfl⟩|constructor)
 ·have hi':l.length<=i:=by simpa using h3
  rw[List.take_of_length_le hi']
  conv=>whnf
  exact aB.int rfl
def yB(p:aX)(l a:List Clause):Int:=bif lT p l !=0 then lT p l else lT p a
theorem MP{p:aX}{l:List Clause}{k:Clause}(h1:decide ((l.length:Int)>160)=false)(h:bJ (l.map (xG p))=xG p k):lT p l=xG p k:=by
 rw[lT,h1,h]; rfl
theorem S.yC(p:aX)(l:List Clause)(g f:Bool)(hp:dP p)(hl:SmallK l):ay Tryd.prog 14 [.dat (.eG p),.vV 0 g [.row 4 f (.clauses l)]] (.int (lT p l)):=by
 have k1:=hl.len
 refine ay.of Bd.iI (by simp) rfl rfl ?_
 conv=>whnf
 refine aY.times 2 rfl ?_
 conv=>whnf
 refine Fork.mk (fun _=>?_) (fun q=>absurd (q.symm.trans (rfl)) Bool.false_ne_true)
 conv=>whnf
 refine .mk (by omega) ?_
 conv=>whnf
 refine⟨fun ha1=>?_,fun ha1=>?_⟩
 ·conv=>whnf
  exact aB.int (by rw[lT,ha1]; rfl)
 conv=>whnf
 refine aY.same [1,2,10,11,12,19,20] (fun i:Nat=>[(21,.int i)]) (fun i=>i<=l.length/\bJ (l.map (xG p))=bJ ((l.drop i).map (xG p))) (fun i=>l.length-i) 0 rfl (by decide) rfl (fun _=>rfl) ⟨by omega,by simp⟩ ⟨⟨_,rfl,rfl⟩,trivial⟩ ?_
 conv=>whnf
 refine⟨rfl,?_⟩
 rintro i ⟨hia,hfa⟩
 conv=>whnf
 refine⟨fun X6=>?_,fun X6=>?_⟩
 ·have hi':i<l.length:=by simpa using X6
  rw[Et hi'] at hfa
  conv=>whnf
  refine .mk (by simp only[Rw.rng] at *; first|omega|(simp_all; done)|(simp_all; omega)) ?_
  conv=>whnf
  refine ah.pure (S.cO p (l.getD i default) hp (hl.cl i)) rfl ?_
  conv=>whnf
  refine⟨fun h4=>?_,fun h4=>?_⟩
  ·conv=>whnf
   rw[show(xG p (l.getD i default) !=0)=true from h4] at hfa
   refine aB.int ?_
   exact(MP ha1 hfa).symm▸rfl
  ·conv=>whnf
   refine .mk (by simp only[okI] at *; first|omega|(simp_all; done)|(simp_all; omega)) ?_
   conv=>whnf
   rw[show(xG p (l.getD i default) !=0)=false from h4] at hfa
   refine⟨i+1,⟨by omega,hfa⟩,by omega,⟨⟨_,rfl,rfl⟩,trivial⟩,?_,rfl⟩
   repeat' (first|exact trivial|exact⟨_,rfl,rfl⟩|constructor)
 have X7:l.length<=i:=by simpa using X6
 rw[List.drop_eq_nil_of_le X7] at hfa
 have hza:lT p l=0:=by rw[lT,ha1,hfa]; rfl
 conv=>whnf
 refine .mk (by simp only[okI] at *; first|omega|(simp_all; done)|(simp_all; omega)) ?_
 conv=>whnf
 refine Fork.mk (fun q=>absurd (q.symm.trans (rfl)).symm Bool.false_ne_true) (fun _=>?_)
 conv=>whnf
 exact aB.int (by rw[hza])
theorem S.F8(p:aX)(l a:List Clause)(g f f':Bool)(hp:dP p)(hl:SmallK l)(ha:SmallK a):ay Tryd.prog 14 [.dat (.eG p),.vV 0 g [.row 4 f (.clauses l),.row 4 f' (.clauses a)]] (.int (yB p l a)):=by
 have k1:=hl.len
 have k2:=ha.len
 refine ay.of Bd.iI (by simp) rfl rfl ?_
 conv=>whnf
 refine aY.times 3 rfl ?_
 conv=>whnf
 refine Fork.mk (fun _=>?_) (fun q=>absurd (q.symm.trans (rfl)) Bool.false_ne_true)
 conv=>whnf
 refine .mk (by omega) ?_
 conv=>whnf
 refine⟨fun ha1=>?_,fun ha1=>?_⟩
 ·conv=>whnf
  exact aB.int (by rw[yB,lT,ha1]; rfl)
 conv=>whnf
 refine aY.same [1,2,10,11,12,19,20] (fun i:Nat=>[(21,.int i)]) (fun i=>i<=l.length/\bJ (l.map (xG p))=bJ ((l.drop i).map (xG p))) (fun i=>l.length-i) 0 rfl (by decide) rfl (fun _=>rfl) ⟨by omega,by simp⟩ ⟨⟨_,rfl,rfl⟩,trivial⟩ ?_
 conv=>whnf
 refine⟨rfl,?_⟩
 rintro i ⟨hia,hfa⟩
 conv=>whnf
 refine⟨fun X6=>?_,fun X6=>?_⟩
 ·have hi':i<l.length:=by simpa using X6
  rw[Et hi'] at hfa
  conv=>whnf
  refine .mk (by simp only[Rw.rng] at *; first|omega|(simp_all; done)|(simp_all; omega)) ?_
  conv=>whnf
  refine ah.pure (S.cO p (l.getD i default) hp (hl.cl i)) rfl ?_
  conv=>whnf
  refine⟨fun h4=>?_,fun h4=>?_⟩
  ·conv=>whnf
   rw[show(xG p (l.getD i default) !=0)=true from h4] at hfa
   refine aB.int ?_
   rw[yB,MP ha1 hfa,show(xG p (l.getD i default) !=0)=true from h4]; rfl
  ·conv=>whnf
   refine .mk (by simp only[okI] at *; first|omega|(simp_all; done)|(simp_all; omega)) ?_
   conv=>whnf
   rw[show(xG p (l.getD i default) !=0)=false from h4] at hfa
   refine⟨i+1,⟨by omega,hfa⟩,by omega,⟨⟨_,rfl,rfl⟩,trivial⟩,?_,rfl⟩
   repeat' (first|exact trivial|exact⟨_,rfl,rfl⟩|constructor)
 have X7:l.length<=i:=by simpa using X6
 rw[List.drop_eq_nil_of_le X7] at hfa
 have hza:lT p l=0:=by rw[lT,ha1,hfa]; rfl
 conv=>whnf
 refine .mk (by simp only[okI] at *; first|omega|(simp_all; done)|(simp_all; omega)) ?_
 conv=>whnf
 refine Fork.mk (fun _=>?_) (fun q=>absurd (q.symm.trans (rfl)) Bool.false_ne_true)
 conv=>whnf
 refine .mk (by omega) ?_
 conv=>whnf
 refine⟨fun hb1=>?_,fun hb1=>?_⟩
 ·conv=>whnf
  exact aB.int (by rw[yB,hza,lT,hb1]; rfl)
 conv=>whnf
 refine aY.same [1,2,10,11,12,19,20] (fun i:Nat=>[(21,.int i)]) (fun i=>i<=a.length/\bJ (a.map (xG p))=bJ ((a.drop i).map (xG p))) (fun i=>a.length-i) 0 rfl (by decide) rfl (fun _=>rfl) ⟨by omega,by simp⟩ ⟨⟨_,rfl,rfl⟩,trivial⟩ ?_
 conv=>whnf
 refine⟨rfl,?_⟩
 rintro j ⟨hib,hfb⟩
 conv=>whnf
 refine⟨fun hb3=>?_,fun hb3=>?_⟩
 ·have hi':j<a.length:=by simpa using hb3
  rw[Et hi'] at hfb
  conv=>whnf
  refine .mk (by simp only[Rw.rng] at *; first|omega|(simp_all; done)|(simp_all; omega)) ?_
  conv=>whnf
  refine ah.pure (S.cO p (a.getD j default) hp (ha.cl j)) rfl ?_
  conv=>whnf
  refine⟨fun h4=>?_,fun h4=>?_⟩
  ·conv=>whnf
   rw[show(xG p (a.getD j default) !=0)=true from h4] at hfb
   refine aB.int ?_
   rw[yB,hza]; exact(MP hb1 hfb).symm▸rfl
  ·conv=>whnf
   refine .mk (by simp only[okI] at *; first|omega|(simp_all; done)|(simp_all; omega)) ?_
   conv=>whnf
   rw[show(xG p (a.getD j default) !=0)=false from h4] at hfb
   refine⟨j+1,⟨by omega,hfb⟩,by omega,⟨⟨_,rfl,rfl⟩,trivial⟩,?_,rfl⟩
   repeat' (first|exact trivial|exact⟨_,rfl,rfl⟩|constructor)
 have aaX:a.length<=j:=by simpa using hb3
 rw[List.drop_eq_nil_of_le aaX] at hfb
 have hzb:lT p a=0:=by rw[lT,hb1,hfb]; rfl
 conv=>whnf
 refine .mk (by simp only[okI] at *; first|omega|(simp_all; done)|(simp_all; omega)) ?_
 conv=>whnf
 refine Fork.mk (fun q=>absurd (q.symm.trans (rfl)).symm Bool.false_ne_true) (fun _=>?_)
 conv=>whnf
 exact aB.int (by rw[yB,hza,hzb]; rfl)
def dw(l:List Clause)(e:Elem):Nat:=l.findIdx fun k=> !holdsB k e
def bg(l:List Clause)(e:Elem):Bool:=l.all fun k=>holdsB k e
theorem MQ{α:Type}{l:List α}{p q:α->Bool}:l.findIdx (fun x=>p x||q x)=min (l.findIdx p) (l.findIdx q):=by
 induction l with
 |nil=>rfl
 |cons x r ih =>
  rw[List.findIdx_cons,List.findIdx_cons,List.findIdx_cons]
  cases p x<;>cases q x<;>simp only[Bool.or_true,Bool.or_false,cond_true,cond_false]<;>omega
theorem MR{α:Type}{l:List α}:l.findIdx (fun _=>false)=l.length:=by
 induction l with
 |nil=>rfl
 |cons x r ih=>rw[List.findIdx_cons,ih]; rfl
theorem CQ{α:Type}{l:List α}{p:α->Bool}:(l.findIdx p==l.length)=l.all fun x=> !p x:=by
 induction l with
 |nil=>rfl
 |cons x r ih =>
  rw[List.findIdx_cons,List.all_cons,List.length_cons]
  cases p x with
  |true=>simp
  |false=>rw[<- ih]; simp
def yR(l:List Clause)(es:List Elem):Nat:=es.foldl (fun m e=>min m (dw l e)) l.length
def qX(l:List Clause)(es:List Elem):Nat:=l.findIdx fun k=>es.any fun e=> !holdsB k e
theorem Tv{l:List Clause}{es:List Elem}:yR l es=qX l es:=by
 have: ∀ (es:List Elem) (m:Nat),m<=l.length->es.foldl (fun m e=>min m (dw l e)) m=min m (qX l es):=by
  intro es
  induction es with
  |nil=>intro m hm; show m=min m (l.findIdx fun _=>false); rw[MR]; omega
  |cons e es ih =>
   intro m hm
   rw[List.foldl_cons,ih _ (by omega)]
   have:qX l (e::es)=min (dw l e) (qX l es):=MQ
   rw[this]; omega
 rw[yR,this es _ (Nat.le_refl _)]
 have:qX l es<=l.length:=List.findIdx_le_length
 omega
theorem Tz{l:List Clause}{es:List Elem}:qX l es<=l.length:=List.findIdx_le_length
theorem Qn{l:List Clause}{es:List Elem}{i:Nat}(hi:i<es.length):yR l (es.take (i+1))=min (yR l (es.take i)) (dw l (es.getD i default)):=by
 unfold yR
 rw[List.take_add_one,List.foldl_append]; simp[hi]
def orM(n m:Nat):Int:=bif m==n then -1 else m
def stepG(fire:Elem->Option Elem)(l a:List Clause)(s:Nat×Elem)(e:Elem):Nat×Elem :=
 match fire e with
 |none=>s
 |some x=>bif bg l e&&bg a e&&(decide (dw l x<l.length)&&(decide (dw l x<s.1)||dw l x==s.1&&decide (kG e<kG s.2))) then(dw l x,e) else s
def CS(fire:Elem->Option Elem)(l a:List Clause)(es:List Elem):Nat×Elem:=es.foldl (stepG fire l a) (l.length,⟨0,[]⟩)
theorem Eu{α β:Type}{f:β->α->β}{b:β}{es:List α}{i:Nat}{d:α}(hi:i<es.length):(es.take (i+1)).foldl f b=f ((es.take i).foldl f b) (es.getD i d):=by
 rw[List.take_add_one,List.foldl_append]; simp[hi]
theorem Ew{fire:Elem->Option Elem}{l a:List Clause}{s:Nat×Elem}{e:Elem}(h:s.1<=l.length):(stepG fire l a s e).1<=l.length:=by
 unfold stepG
 split
 ·exact h
 ·cases hc:(bg l e&&bg a e&&(decide (dw l _<l.length)&&(decide (dw l _<s.1)||dw l _==s.1&&decide (kG e<kG s.2)))) with
  |false=>exact h
  |true=>exact List.findIdx_le_length
theorem Ey{fire:Elem->Option Elem}{l a:List Clause}{es:List Elem}:(CS fire l a es).1<=l.length:=by
 have: ∀ (es:List Elem) (s:Nat×Elem),s.1<=l.length->(es.foldl (stepG fire l a) s).1<=l.length:=by
  intro es
  induction es with
  |nil=>intro s h; exact h
  |cons e es ih=>intro s h; exact ih _ (Ew h)
 exact this es _ (Nat.le_refl _)
def uX(bad:Elem->Bool)(l:List Clause)(s:Option Elem)(e:Elem):Option Elem :=
 bif bad e&&(bg l e&&(s.isNone||decide (kG e<kG (s.getD ⟨0,[]⟩)))) then some e else s
def MS(bad:Elem->Bool)(l:List Clause)(es:List Elem):Option Elem:=es.foldl (uX bad l) none
theorem TA{bad:Elem->Bool}{l:List Clause}{es:List Elem}{x:Elem}(h:MS bad l es=some x):x∈es:=by
 have: ∀ (es:List Elem) (s:Option Elem) (x:Elem),es.foldl (uX bad l) s=some x->s=some x\/x∈es:=by
  intro es
  induction es with
  |nil=>intro s x h; exact .inl h
  |cons e es ih =>
   intro s x h
   rw[List.foldl_cons] at h
   rcases ih _ x h with h|h
   ·unfold uX at h
    cases hc:(bad e&&(bg l e&&(s.isNone||decide (kG e<kG (s.getD ⟨0,[]⟩))))) with
    |false=>rw[hc] at h; exact .inl h
    |true=>rw[hc] at h; cases h; exact .inr (by simp)
   ·exact .inr (List.mem_cons_of_mem _ h)
 rcases this es none x h with h|h
 ·cases h
 ·exact h
theorem tV{l a:List Clause}{e:Elem}:bg (l++a) e=(bg l e&&bg a e):=by simp[bg]
theorem qA{l:List Clause}{e:Elem}:(kK l e).length=l.length:=by simp[kK]
theorem J3{l a:List Clause}{e:Elem}:(kK (l++a) e).take l.length=kK l e:=by
 simp[kK]
theorem OL{l:List Clause}{e:Elem}:(kK l e).all id=bg l e:=by
 simp[kK,bg,List.all_map,Function.comp_def]
theorem Qo{l:List Clause}{e:Elem}:(kK l e).findIdx (fun b=> !b)=dw l e:=by
 unfold kK dw
 induction l with
 |nil=>rfl
 |cons k l ih=>rw[List.map_cons,List.findIdx_cons,List.findIdx_cons,ih]
theorem zL{l a:List Clause}:aU (l++a)=max (aU l) (aU a):=by
 have: ∀ (l:List Clause) (r:Int),0<=r->l.foldl (fun r k=>max r (mW k)) r=max r (aU l):=by
  intro l
  induction l with
  |nil=>intro r hr; show r=max r 0; omega
  |cons x l ih =>
   intro r hr
   have h0:0<=mW x:=by unfold mW; split<;>omega
   show l.foldl _ (max r (mW x))=max r (l.foldl _ (max 0 (mW x)))
   rw[ih _ (by omega),ih (max 0 (mW x)) (by omega)]; omega
 show(l++a).foldl _ 0=_
 rw[List.foldl_append]; exact this a (aU l) rX
theorem getM{α:Type}{l:List α}{i:Nat}{d:α}(hi:i<l.length):l.getD i d∈l:=by
 rw[show l.getD i d=l[i] by simp[hi]]; exact List.getElem_mem hi
theorem CJ.g{c:List Int}(h:CJ c)(i:Nat):0<=c.getD i 0/\c.getD i 0<=1048576:=by
 by_cases hi:i<c.length
 ·exact h.get hi
 ·rw[show c.getD i 0=0 by simp[List.getD_eq_getElem?_getD,List.getElem?_eq_none (by omega:c.length<=i)]]; omega
structure X8(k:Clause)(e:Elem):Prop where
 cl: ∃ vals,yg e.counts.length vals k
 ok:CJ e.counts
 len:e.counts.length<=6
theorem CP.len{n:Nat}: ∀ {l:List Int},CP n l->l.length<=n:=by
 intro l h
 have: ∀ (l:List Int) (b:Int),(∀ x∈l,b<=x/\x<n)->l.Pairwise (· < ·)->(l.length:Int)<=n-b\/l=[]:=by
  intro l
  induction l with
  |nil=>intro b _ _; exact .inr rfl
  |cons x r ih =>
   intro b hb hp
   have h1:=hb x (by simp)
   rw[List.pairwise_cons] at hp
   rcases ih (x+1) (fun y hy=>⟨by have:=hp.1 y hy; omega,(hb y (List.mem_cons_of_mem _ hy)).2⟩) hp.2 with h2|h2
   ·left; rw[List.length_cons]; omega
   ·left; subst h2; simp only[List.length_cons,List.length_nil]; omega
 rcases this l 0 h.1 h.2 with h2|h2
 ·omega
 ·subst h2; simp
theorem CP.place{n:Nat}{l:List Int}(h:CP n l):pW n l:=h.1
def lC(starts:List Int)(e:Elem):Bool:= !(Tc e.counts starts)&&(e.value==0)
abbrev oJ(l:List Elem):OV:=.row 42 3 (.elems l) []
theorem Xn{h:Hz}{j:Nat}{l:List Elem}{Z:Nat->Prop}(hz:Z j)(q:h.get j=some (oJ l)):T.sub Z h.aj (V.row 3 false (.elems l)).aI (V.own j).aI:=by
 show T.sub Z h.aj (.sl 3 false (l.map nP)) (.own j)
 simp only[T.sub]
 refine⟨trivial,hz,yS l,by decide,42,?_⟩
 have:=aK q; simpa [OV.aF,Rw.aT,V.aT] using this
theorem aB.aaY{h:Hz}{j:Nat}{l:List Elem}(q:h.get j=some (oJ l)):aB (.row 3 false (.elems l)) (.own j) h:=⟨Xn trivial q⟩
theorem XU{Z:Nat->Prop}{h:Hz}{j:Nat}{v:Int}{l:List Int}(hz:Z j)(q:h.get j=some (iL l)):T.sub Z h.aj (nP ⟨v,l⟩) (.agg [.int v,.own j]):=by
 have:=JU hz q
 show T.sub Z h.aj (.agg [.int v,.sl 0 false (l.map T.int)]) (.agg [.int v,.own j])
 replace this:T.sub Z h.aj (.sl 0 false (l.map T.int)) (.own j):=this
 simp only[T.sub] at this
 simp only[T.sub,T.dI]
 exact⟨trivial,this,trivial⟩
theorem J4{Z:Nat->Prop}{h:Hz}{i j:Nat}{l:List Elem}{e:Elem}(q:h.get i=some (.row 42 3 (.elems l) [.agg [.int e.value,.own j]]))(hi: ¬ Z i)(hz:Z j)(qj:h.get j=some (iL e.counts)) :
  ∃ o',h.get i=some o'/\ ¬ Z i/\o'.aF.ty=(oJ (l++[e])).aF.ty/\o'.aF.k=(oJ (l++[e])).aF.k/\T.dI Z h.aj (oJ (l++[e])).aF.l o'.aF.l/\(oJ (l++[e])).aF.l.map T.kd=o'.aF.l.map T.kd/\(oJ (l++[e])).aF.l.map gG=o'.aF.l.map gG:=by
 have e1:(oJ (l++[e])).aF.l=l.map nP++[nP e]:=by simp[OV.aF,Rw.aT,V.aT]
 refine⟨_,q,hi,rfl,rfl,?_,?_,?_⟩
 ·rw[e1]
  exact CU (dB _) ⟨XU hz qj,trivial⟩
 ·rw[e1]; show _=List.map T.kd (l.map nP++[.agg [.int e.value,.own j]])
  rw[List.map_append,List.map_append]; rfl
 ·rw[e1]; show _=List.map gG (l.map nP++[.agg [.int e.value,.own j]])
  rw[List.map_append,List.map_append]; rfl
theorem xO{b n:Nat}(hb:b<=9)(hn:n<=6):b^n<=531441:=Nat.le_trans (Nat.pow_le_pow_left hb n) (Nat.le_trans (Nat.pow_le_pow_right (by decide) hn) (by decide))
end Go.Proofs.YtifbibbicplneaaDoor
