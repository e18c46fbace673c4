/-
 A part of the proof. No condition.
-/
import Derived.Test.YtiakcepnlcpanaaGreatDoorLf
import Derived.Test.YtiakcepnlcpanaaGreatDoorFa
import Derived.Test.YtiakcepnlcpanaaGreatDoorKa
namespace Go.Proofs.YtiakcepnlcpanaaGreatDoor
open Go.Ab Go.Proofs
set_option maxRecDepth 100000
def iL(c:List Int)(x:Int):List Int:=c.set x.toNat (c.getD x.toNat 0-1)
def sW:List (List Int)->List Int->List Int->Bool
 |[],l,c=>l.any fun x=>decide (c.getD x.toNat 0>0)
 |s::r,l,c=>s.all fun x=>c.getD x.toNat 0==0||sW r l (iL c x)
def U9(k:Clause)(v:Int):Bool:=decide ((k.values.length:Int)>0)&& !(k.values.any fun y=>v==y)
def holdsB(k:Clause)(e:Elem):Bool:=U9 k e.value||sW k.each k.some e.counts
def En(n:Nat)(l:List Int):Prop:=(∀ x∈l,0<=x/\x<n)/\l.Pairwise (· < ·)
structure zD(n vals:Nat)(k:Clause):Prop where
 two:k.each.length<=2
 each: ∀ s∈k.each,En n s/\s≠[]
 values:En vals k.values
 some:En n k.some
theorem Bv{c:List Int}{a b:Int}(ha:0<=a/\a<c.length)(hb:0<=b):(iL c a).getD b.toNat 0=c.getD b.toNat 0-(if b=a then 1 else 0):=by
 unfold iL
 by_cases e:b=a
 ·subst e
  have:b.toNat<c.length:=by omega
  rw[if_pos rfl]
  simp[this]
 ·rw[if_neg e]
  have hne:a.toNat≠b.toNat:=by omega
  simp[List.getD_eq_getElem?_getD,List.getElem?_set_ne hne]
theorem Ah{α:Type}{l:List α}{p q:α->Bool}(h: ∀ x∈l,p x=q x):l.all p=l.all q:=by
 induction l with
 |nil=>rfl
 |cons x r ih=>rw[List.all_cons,List.all_cons,h x (by simp),ih fun y hy=>h y (List.mem_cons_of_mem _ hy)]
theorem OG{α:Type}{l:List α}{p q:α->Bool}(h: ∀ x∈l,p x=q x):l.any p=l.any q:=by
 induction l with
 |nil=>rfl
 |cons x r ih=>rw[List.any_cons,List.any_cons,h x (by simp),ih fun y hy=>h y (List.mem_cons_of_mem _ hy)]
theorem Va{c:List Int}(h: ∀ x∈c,0<=x)(i:Nat):0<=c.getD i 0:=by
 by_cases hi:i<c.length
 ·rw[show c.getD i 0=c[i] by simp[hi]]; exact h _ (List.getElem_mem hi)
 ·rw[show c.getD i 0=0 by simp[List.getD_eq_getElem?_getD,List.getElem?_eq_none (by omega:c.length<=i)]]; omega
def kW(r:Int)(c d:List Int):Prop:=c.length=d.length/\ ∀ i,0<=c.getD i 0/\0<=d.getD i 0/\min (c.getD i 0) r=min (d.getD i 0) r
theorem FY{l:List Int}: ∀ {each:List (List Int)} {r:Int} {c d:List Int},kW r c d->(each.length:Int)+(if 0<l.length then 1 else 0)<=r->(∀ s∈each,∀ x∈s,0<=x/\x<c.length)->sW each l c=sW each l d:=by
 intro each
 induction each with
 |nil =>
  intro r c d h hr _
  cases l with
  |nil=>rfl
  |cons y l =>
   simp only[List.length_cons,if_pos (Nat.succ_pos _),List.length_nil] at hr
   refine OG fun x _=>decide_eq_decide.2 ?_
   have:=h.2 x.toNat
   constructor<;>intro g<;>omega
 |cons s each ih =>
  intro r c d h hr hs
  simp only[List.length_cons] at hr
  have hr1:1<=r:=by split at hr<;>omega
  show(s.all fun x=>c.getD x.toNat 0==0||sW each l (iL c x))=s.all fun x=>d.getD x.toNat 0==0||sW each l (iL d x)
  refine Ah fun x hx=>?_
  have hxs:=hs s (by simp) x hx
  have hxd:0<=x/\x<d.length:=by rw[<- h.1]; exact hxs
  obtain⟨a1,a2,a3⟩:=h.2 x.toNat
  by_cases hz:c.getD x.toNat 0=0
  ·have:d.getD x.toNat 0=0:=by omega
   rw[hz,this]; rfl
  ·have hd:d.getD x.toNat 0≠0:=by omega
   rw[beq_eq_false_iff_ne.2 hz,beq_eq_false_iff_ne.2 hd,Bool.false_or,Bool.false_or]
   refine ih (r:=r-1) ⟨by simp[iL,h.1],fun i=>?_⟩ (by omega) fun t ht y hy=>by
    have:=hs t (List.mem_cons_of_mem _ ht) y hy
    simpa [iL] using this
   have gi:=h.2 i
   have t1:=Bv (c:=c) (b:=(i:Int)) hxs (by omega)
   have t2:=Bv (c:=d) (b:=(i:Int)) hxd (by omega)
   simp only[Int.toNat_natCast] at t1 t2
   rw[t1,t2]
   by_cases e:(i:Int)=x
   ·have e':x.toNat=i:=by omega
    rw[e'] at hz hd
    rw[if_pos e]; omega
   ·rw[if_neg e]; omega
def nI(k:Clause):Int:=(k.each.length:Int)+(if 0<k.some.length then 1 else 0)
def bF(l:List Clause):Int:=l.foldl (fun r k=>max r (nI k)) 0
def nS(r:Int)(c:List Int):List Int:=c.map fun x=>min x r
def oU(r:Int)(e:Elem):Elem:=⟨e.value,nS r e.counts⟩
def yu(r:Int)(v:Int)(c:List Int):Int:=c.foldl (fun k x=>k*(r+1)+min x r) v
def keyE(r:Int)(e:Elem):Int:=yu r e.value e.counts
def fZ(l:List Clause)(e:Elem):List Bool:=l.map fun k=>holdsB k e
theorem Qx{r:Int}{c:List Int}(hr:0<=r){i:Nat}:(nS r c).getD i 0=min (c.getD i 0) r:=by
 by_cases hi:i<c.length
 ·simp[nS,hi]
 ·rw[show(nS r c).getD i 0=0 by simp[nS,List.getD_eq_getElem?_getD,List.getElem?_eq_none (by omega:c.length<=i)],show c.getD i 0=0 by simp[List.getD_eq_getElem?_getD,List.getElem?_eq_none (by omega:c.length<=i)]]; omega
theorem FZ{l:List Clause}: ∀ {r:Int},r<=l.foldl (fun r k=>max r (nI k)) r/\ ∀ k∈l,nI k<=l.foldl (fun r k=>max r (nI k)) r:=by
 induction l with
 |nil=>intro r; exact⟨by simp,fun k h=>by cases h⟩
 |cons x l ih =>
  intro r
  have:=@ih (max r (nI x))
  rw[List.foldl_cons]
  refine⟨by omega,fun k hk=>?_⟩
  rcases List.mem_cons.1 hk with rfl|hk
  ·omega
  ·exact this.2 k hk
theorem Bz{l:List Clause}{k:Clause}(h:k∈l):nI k<=bF l:=FZ.2 k h
theorem qF{l:List Clause}:0<=bF l:=FZ.1
theorem sZ{l:List Clause}(h: ∀ k∈l,k.each.length<=2):bF l<=3:=by
 have: ∀ (l:List Clause) (r:Int),r<=3->(∀ k∈l,k.each.length<=2)->l.foldl (fun r k=>max r (nI k)) r<=3:=by
  intro l
  induction l with
  |nil=>intro r hr _; exact hr
  |cons x l ih =>
   intro r hr h
   rw[List.foldl_cons]
   refine ih _ ?_ fun k hk=>h k (List.mem_cons_of_mem _ hk)
   have:=h x (by simp)
   unfold nI
   split<;>omega
 exact this l 0 (by omega) h
theorem Dt{n vals:Nat}{k:Clause}{e:Elem}{r:Int}(hk:zD n vals k)(hn:e.counts.length=n)(hc: ∀ x∈e.counts,0<=x)(hr:nI k<=r):holdsB k (oU r e)=holdsB k e:=by
 have hr0:0<=r:=by unfold nI at hr; split at hr<;>omega
 unfold holdsB oU
 congr 1
 refine FY (r:=r) ⟨by simp[nS],fun i=>?_⟩ hr fun s hs x hx=>by
  have:=(hk.each s hs).1.1 x hx
  simpa [nS,hn] using this
 have:=Va hc i
 rw[Qx hr0]; omega
theorem key_inj{r:Int}(hr:0<=r): ∀ {n:Nat} {v w:Int} {c d:List Int},c.length=n->d.length=n->(∀ x∈c,0<=x)->(∀ x∈d,0<=x)->yu r v c=yu r w d->v=w/\nS r c=nS r d:=by
 intro n
 induction n with
 |zero =>
  intro v w c d hc hd _ _ h
  have:c=[]:=List.eq_nil_of_length_eq_zero hc
  subst this
  have:d=[]:=List.eq_nil_of_length_eq_zero hd
  subst this
  exact⟨h,rfl⟩
 |succ n ih =>
  intro v w c d hc hd pc pd h
  have e1:c≠[]:=by intro e; subst e; simp at hc
  have e2:d≠[]:=by intro e; subst e; simp at hd
  obtain⟨c',x,rfl⟩: ∃ c' x,c=c'++[x]:=⟨_,_,(List.dropLast_concat_getLast e1).symm⟩
  obtain⟨d',y,rfl⟩: ∃ d' y,d=d'++[y]:=⟨_,_,(List.dropLast_concat_getLast e2).symm⟩
  simp only[yu,List.foldl_append,List.foldl_cons,List.foldl_nil] at h
  have hx:=pc x (by simp)
  have hy:=pd y (by simp)
  have hb: ∀ {a b p q:Int},a*(r+1)+p=b*(r+1)+q->0<=p->p<=r->0<=q->q<=r->a=b/\p=q:=by
   intro a b p q h p1 p2 q1 q2
   have hab:(a-b)*(r+1)=q-p:=by rw[Int.sub_mul]; omega
   rcases Int.lt_trichotomy a b with g|g|g
   ·exfalso
    have:(b-a)*(r+1)>=1*(r+1):=Int.mul_le_mul_of_nonneg_right (by omega) (by omega)
    have e:(b-a)*(r+1)= -((a-b)*(r+1)):=by rw[<- Int.neg_mul]; congr 1; omega
    omega
   ·subst g; simp at hab; omega
   ·exfalso
    have:(a-b)*(r+1)>=1*(r+1):=Int.mul_le_mul_of_nonneg_right (by omega) (by omega)
    omega
  obtain⟨h1,h2⟩:=hb h (by omega) (by omega) (by omega) (by omega)
  obtain⟨h3,h4⟩:=ih (by simpa using hc) (by simpa using hd) (fun z hz=>pc z (by simp[hz])) (fun z hz=>pd z (by simp[hz])) h1
  refine⟨h3,?_⟩
  unfold nS at h4 ⊢
  rw[List.map_append,List.map_append,h4]; simp[h2]
structure RZ(n:Nat)(e:Elem):Prop where
 len:e.counts.length=n
 nn: ∀ x∈e.counts,0<=x
theorem XM{n vals:Nat}{l:List Clause}{e f:Elem}(hl: ∀ k∈l,zD n vals k)(he:RZ n e)(hf:RZ n f)(h:keyE (bF l) e=keyE (bF l) f):fZ l e=fZ l f:=by
 obtain⟨h1,h2⟩:=key_inj qF he.len hf.len he.nn hf.nn h
 refine List.map_congr_left fun k hk=>?_
 rw[<- Dt (hl k hk) he.len he.nn (Bz hk),<- Dt (hl k hk) hf.len hf.nn (Bz hk)]
 unfold oU
 rw[h1,h2]
theorem XO{n vals:Nat}{l:List Clause}{e:Elem}(hl: ∀ k∈l,zD n vals k)(he:RZ n e):fZ l (oU (bF l) e)=fZ l e :=
 List.map_congr_left fun k hk=>Dt (hl k hk) he.len he.nn (Bz hk)
def iW(n:Nat)(l:List Clause)(es:List (Int×List Bool)):Prop:= ∀ e,RZ n e-> ∀ row,vS (keyE (bF l) e) es=some row->row=fZ l e
theorem iW.nil{n:Nat}{l:List Clause}:iW n l []:=fun e _ row h=>by cases h
theorem Vb{k:Int}{p:Int×List Bool}: ∀ {es:List (Int×List Bool)} {row:List Bool},vS k (es++[p])=some row->vS k es=some row\/(k=p.1/\row=p.2):=by
 intro es
 induction es with
 |nil =>
  intro row h
  obtain⟨a,b⟩:=p
  simp only[List.nil_append,vS] at h
  cases hb:k==a with
  |true=>rw[hb] at h; cases h; exact .inr ⟨beq_iff_eq.1 hb,rfl⟩
  |false=>rw[hb] at h; cases h
 |cons q es ih =>
  obtain⟨a,b⟩:=q
  intro row h
  simp only[List.cons_append,vS] at h ⊢
  cases hb:k==a with
  |true=>rw[hb] at h; exact .inl h
  |false=>rw[hb] at h; exact ih h
theorem iW.add{n vals:Nat}{l:List Clause}{es:List (Int×List Bool)}{e:Elem}(h:iW n l es)(hl: ∀ k∈l,zD n vals k)(he:RZ n e):iW n l (es++[(keyE (bF l) e,fZ l e)]):=by
 intro f hf row hr
 rcases Vb hr with hr|⟨h1,rfl⟩
 ·exact h f hf row hr
 ·exact XM hl he hf h1.symm
def jC(b:Nat):Nat->Nat->List Int
 |0,_=>[]
 |n+1,v=>jC b n (v / b)++[((v % b:Nat):Int)]
theorem fK{b:Nat}: ∀ {n v:Nat},(jC b n v).length=n:=by
 intro n
 induction n with
 |zero=>intro v; rfl
 |succ n ih=>intro v; simp[jC,ih]
theorem L6{b:Nat}(hb:0<b): ∀ {n v:Nat},∀ x∈jC b n v,0<=x/\x<b:=by
 intro n
 induction n with
 |zero=>intro v x h; cases h
 |succ n ih =>
  intro v x h
  rcases List.mem_append.1 h with h|h
  ·exact ih x h
  ·rw[List.mem_singleton] at h; subst h
   have:=Nat.mod_lt v hb
   omega
theorem F5{b n u:Nat}(hb:0<b): ∀ {k:Nat},jC b (n+k) (u*b^k)=jC b n u++List.replicate k 0:=by
 intro k
 induction k with
 |zero=>simp
 |succ k ih =>
  rw[<- Nat.add_assoc]
  simp only[jC]
  rw[Nat.pow_succ,<- Nat.mul_assoc,Nat.mul_div_cancel _ hb,ih,Nat.mul_mod_left,List.append_assoc,List.replicate_succ']
  rfl
theorem Du{b n:Nat}(hb:0<b):jC b n 0=List.replicate n 0:=by
 have:=@F5 b 0 0 hb n
 simpa [jC] using this
theorem Vd{b:Nat}(hb:0<b): ∀ {n v:Nat},v<b^n->v≠0->0<(jC b n v).sum:=by
 intro n
 induction n with
 |zero=>intro v h h0; simp at h; omega
 |succ n ih =>
  intro v h h0
  simp only[jC,List.sum_append,List.sum_singleton]
  have hnn:0<=(jC b n (v / b)).sum:=by
   have: ∀ l:List Int,(∀ x∈l,0<=x)->0<=l.sum:=by
    intro l
    induction l with
    |nil=>intro _; simp
    |cons x l ih=>intro h; have:=h x (by simp); have:=ih fun y hy=>h y (by simp[hy]); simp only[List.sum_cons]; omega
   exact this _ fun x hx=>(L6 hb x hx).1
  by_cases hd:v / b=0
  ·have h1:v<b:=by rcases Nat.div_eq_zero_iff.1 hd with h|h<;>omega
   have:v % b=v:=Nat.mod_eq_of_lt h1
   omega
  ·have:v / b<b^n:=by
    rw[Nat.div_lt_iff_lt_mul hb,<- Nat.pow_succ]; exact h
   have:=ih this hd
   omega
def rJ(b n v k:Nat):List Int:=jC b (n-k) (v / b^k)++List.replicate k 0
theorem I9{b n v k:Nat}(h:k<=n):(rJ b n v k).length=n:=by simp[rJ,fK]; omega
theorem F6{b n v:Nat}:rJ b n v 0=jC b n v:=by simp[rJ]
theorem oh{b n v k:Nat}(h:k<n):rJ b n v k=jC b (n-k-1) (v / b^k / b)++(((v / b^k % b:Nat):Int)::List.replicate k 0):=by
 unfold rJ
 obtain⟨j,hj⟩: ∃ j,n-k=j+1:=⟨n-k-1,by omega⟩
 rw[hj,jC,List.append_assoc]; rfl
theorem F7{b n v k:Nat}(_h:k<n):rJ b n v (k+1)=jC b (n-k-1) (v / b^k / b)++((0:Int)::List.replicate k 0):=by
 unfold rJ
 rw[Nat.pow_succ,<- Nat.div_div_eq_div_mul,Nat.sub_add_eq,List.replicate_succ]
theorem Qy{a b:Nat}(hb:0<b)(h:a % b+1≠b):(a+1) / b=a / b/\(a+1) % b=a % b+1:=by
 have h1:=Nat.mod_lt a hb
 have h2:=Nat.div_add_mod a b
 have e:a+1=(a % b+1)+b*(a / b):=by omega
 have h3:a % b+1<b:=by omega
 constructor
 ·rw[e,Nat.add_mul_div_left _ _ hb,Nat.div_eq_of_lt h3]; omega
 ·rw[e,Nat.add_mul_mod_self_left,Nat.mod_eq_of_lt h3]
theorem Ve{a b:Nat}(_hb:0<b)(h:a % b+1=b):(a / b+1)*b=a+1:=by
 have h2:=Nat.div_add_mod a b
 rw[Nat.succ_mul,Nat.mul_comm]; omega
theorem Ja{b n v k:Nat}(hb:0<b)(h:k<n)(h3:v / b^k % b+1≠b)(hv:v+1=(v / b^k+1)*b^k):jC b (n-k-1) (v / b^k / b)++((((v / b^k % b:Nat):Int)+1)::List.replicate k 0)=jC b n (v+1):=by
 have e:jC b n (v+1)=jC b ((n-k-1+1)+k) ((v / b^k+1)*b^k):=by rw[<- hv]; congr 1; omega
 obtain⟨m1,m2⟩:=Qy hb h3
 rw[e,F5 hb,jC,List.append_assoc,m1,m2]
 rfl
theorem F8{b v k:Nat}(hb:0<b)(h3:v / b^k % b+1=b)(hv:v+1=(v / b^k+1)*b^k):v+1=(v / b^(k+1)+1)*b^(k+1):=by
 have e:v / b^(k+1)=v / b^k / b:=by rw[Nat.pow_succ,<- Nat.div_div_eq_div_mul]
 rw[e,Nat.pow_succ,Nat.mul_comm (b^k) b,<- Nat.mul_assoc,Ve hb h3]
 exact hv
theorem QA{b n v k:Nat}(hb:0<b)(h:k<n)(hlt:v<b^n)(h3:v / b^k % b+1≠b)(hv:v+1=(v / b^k+1)*b^k):v+1<b^n:=by
 have e:b^n=b^(n-k-1)*b*b^k:=by
  rw[<- Nat.pow_succ,<- Nat.pow_add]; congr 1; omega
 have h1:v / b^k<b^(n-k-1)*b:=by
  rw[Nat.div_lt_iff_lt_mul (Nat.pow_pos hb),<- e]; exact hlt
 have h2:v / b^k+1<b^(n-k-1)*b:=by
  rcases Nat.lt_or_ge (v / b^k+1) (b^(n-k-1)*b) with g|g
  ·exact g
  ·exfalso
   have e2:v / b^k+1=b^(n-k-1)*b:=by omega
   have m:=(Qy hb h3).2
   rw[e2,Nat.mul_mod_left] at m
   omega
 rw[hv,e]
 exact Nat.mul_lt_mul_of_pos_right h2 (Nat.pow_pos hb)
theorem L8{b n v:Nat}(hlt:v<b^n)(hv:v+1=(v / b^n+1)*b^n):v+1=b^n:=by
 rw[Nat.div_eq_of_lt hlt] at hv; omega
def vg(b n w u:Nat):List Elem:=(List.range u).map fun v=>⟨(w:Int),jC b n (v+1)⟩
def gI(b n vals:Nat):List Elem:=(List.range vals).flatMap fun w=>vg b n w (b^n-1)
theorem Jb{b n w u:Nat}:vg b n w (u+1)=vg b n w u++[⟨(w:Int),jC b n (u+1)⟩]:=by
 unfold vg; rw[List.range_succ,List.map_append]; rfl
theorem Dv{b n w:Nat}:gI b n (w+1)=gI b n w++vg b n w (b^n-1):=by
 unfold gI; rw[List.range_succ,List.flatMap_append]; simp
theorem F9{b n w u:Nat}:(vg b n w u).length=u:=by simp[vg]
theorem tq{b n vals:Nat}:(gI b n vals).length=vals*(b^n-1):=by
 induction vals with
 |zero=>simp[gI]
 |succ w ih=>rw[Dv,List.length_append,ih,F9,Nat.succ_mul]
structure uH(b n vals:Nat)(e:Elem):Prop where
 len:e.counts.length=n
 rng: ∀ x∈e.counts,0<=x/\x<b
 val:0<=e.value/\e.value<vals
 pos:0<e.counts.sum
theorem y9{b n vals:Nat}(hb:0<b): ∀ e∈gI b n vals,uH b n vals e:=by
 intro e h
 obtain⟨w,hw,h2⟩:=List.mem_flatMap.1 h
 obtain⟨v,hv,rfl⟩:=List.mem_map.1 h2
 have:=List.mem_range.1 hw
 have:=List.mem_range.1 hv
 have hp:0<b^n:=Nat.pow_pos hb
 exact⟨fK,fun x hx=>L6 hb x hx,⟨by show(0:Int)<=w; omega,by show(w:Int)<vals; omega⟩,Vd hb (by omega) (by omega)⟩
theorem Si{b k:Nat}(hb:0<b)(hk:k<b): ∀ {m u:Nat},u<b^m->jC b (m+1) (k*b^m+u)=(k:Int)::jC b m u:=by
 intro m
 induction m with
 |zero =>
  intro u hu
  have h:u=0:=(by simpa using hu)
  subst h
  simp only[jC,Nat.pow_zero,Nat.mul_one,Nat.add_zero,List.nil_append]
  rw[Nat.mod_eq_of_lt hk]
 |succ m ih =>
  intro u hu
  rw[Nat.pow_succ] at hu
  have e:k*b^(m+1)=b*(k*b^m):=by rw[Nat.pow_succ,<- Nat.mul_assoc,Nat.mul_comm]
  rw[e,jC]
  rw[Nat.mul_add_div hb,Nat.mul_add_mod,ih (show u / b<b^m by rw[Nat.div_lt_iff_lt_mul hb]; exact hu),jC]
  rfl
structure qY(k:Clause):Prop where
 each:k.each.length<2^30
 rows: ∀ i,(k.each.getD i []).length<2^30
 values:k.values.length<2^30
 some:k.some.length<2^30
structure SmallK(l:List Clause):Prop where
 len:l.length<2^30
 cl: ∀ i,qY (l.getD i default)
def zC(p:aW):Int:=bif eF p==0&& !(kC p).monadic then 7 else eF p
def Bf(p:aW)(q:Prop'):Int:=bif qO p q !=0 then qO p q else fQ (zC p !=0||q.kind !=1) 7
def tu(n:Int)(s:List Int):Int:=bif iP s n !=0 then iP s n else fQ ((s.length:Int)==0) 1
def xP(p:aW)(k:Clause):Int :=
 bif decide ((k.each.length:Int)>2) then 1 else
 bif bW (k.each.map (tu p.states.length)) !=0 then bW (k.each.map (tu p.states.length)) else
 bif iP k.values p.values.length !=0 then iP k.values p.values.length else iP k.some p.states.length
def mW(p:aW)(l:List Clause):Int:=bif decide ((l.length:Int)>160) then 4 else bW (l.map (xP p))
theorem S.jU(l:List Int)(n:Int)(f:Bool)(hl:l.length<2^40):au Tryz.prog 42 [.row 0 f (.ints l),.int n] (.int (iP l n)):=by
 refine au.of Bd.jU (by simp) rfl rfl ?_
 conv=>whnf
 refine aU.same [0,1,8,9] (fun i:Nat=>[(10,.int i)]) (fun i=>i<=l.length/\(l.take i).any (fun i=>yg i n)=false) (fun i=>l.length-i) 0 rfl (by decide) rfl (fun _=>rfl) ⟨by omega,by simp⟩ ⟨⟨_,rfl,rfl⟩,trivial⟩ ?_
 conv=>whnf
 refine⟨rfl,?_⟩
 rintro i ⟨hi,hall⟩
 conv=>whnf
 refine⟨fun h3=>?_,fun h3=>?_⟩
 ·have hi':i<l.length:=by simpa using h3
  conv=>whnf
  repeat(refine VC.mk (by first|exact fun h=>⟨h,h⟩|(intro h; rw[h]; rfl)|(simp only[Rw.rng] at *; omega)) ?_; conv=>whnf)
  refine⟨fun h4=>?_,fun h4=>?_⟩
  ·conv=>whnf
   refine aA.int ?_
   rw[iP,wV (d:=0) hi' h4]; rfl
  ·conv=>whnf
   refine .mk (by simp only[okI] at *; omega) ?_
   conv=>whnf
   refine⟨i+1,⟨by omega,?_⟩,by omega,⟨⟨_,rfl,rfl⟩,trivial⟩,?_,rfl⟩
   ·rw[Bq (d:=0) hi' hall]; exact h4
   ·repeat' (first|exact trivial|exact⟨_,rfl,rfl⟩|constructor)
 ·have hi':l.length<=i:=by simpa using h3
  rw[List.take_of_length_le hi'] at hall
  conv=>whnf
  refine aU.same [0] (fun i:Nat=>[(7,.int (i+1))]) (fun i=>(i<l.length\/i=0)/\Dw l=Dw (l.drop i)) (fun i=>l.length-i) 0 rfl (by decide) rfl (fun _=>rfl) ⟨by omega,by simp⟩ ⟨⟨_,rfl,rfl⟩,trivial⟩ ?_
  conv=>whnf
  refine⟨rfl,?_⟩
  rintro i ⟨hi,hinc⟩
  conv=>whnf
  refine⟨fun h5=>?_,fun h5=>?_⟩
  ·have hi1:i+1<l.length:=by have:=of_decide_eq_true h5; omega
   rw[cO 0 (show i<l.length by omega),cO 0 hi1] at hinc
   simp only[Dw] at hinc
   rw[<- cO 0 hi1] at hinc
   conv=>whnf
   repeat(refine VC.mk (by simp only[okI,Rw.rng] at *; omega) ?_; conv=>whnf)
   refine⟨fun h6=>?_,fun h6=>?_⟩
   ·conv=>whnf
    refine aA.int ?_
    have e1:((i:Int)+1).toNat=i+1:=by omega
    have e2:((i:Int)+1-1).toNat=i:=by omega
    rw[e1,e2] at h6
    have h6':l.getD (i+1) 0<=l.getD i 0:=of_decide_eq_true h6
    rw[iP,hall,hinc,decide_eq_false (by omega)]; rfl
   ·conv=>whnf
    refine .mk (by simp only[okI] at *; omega) ?_
    conv=>whnf
    have e1:((i:Int)+1).toNat=i+1:=by omega
    have e2:((i:Int)+1-1).toNat=i:=by omega
    rw[e1,e2] at h6
    have h6': ¬ l.getD (i+1) 0<=l.getD i 0:=of_decide_eq_false h6
    rw[decide_eq_true (by omega),Bool.true_and] at hinc
    refine⟨i+1,⟨by omega,hinc⟩,by omega,⟨⟨_,rfl,rfl⟩,trivial⟩,?_,rfl⟩
    repeat' (first|exact trivial|exact⟨_,rfl,rfl⟩|constructor)
  ·conv=>whnf
   refine aA.int ?_
   have h5': ¬ ((i:Int)+1<l.length):=of_decide_eq_false h5
   have:Dw l=true:=by
    rw[hinc]
    rcases hd:l.drop i with _|⟨a,_|⟨b,r⟩⟩
    ·rfl
    ·rfl
    ·have:=congrArg List.length hd
     simp only[List.length_drop,List.length_cons] at this
     omega
   rw[iP,hall,this]; rfl
theorem S.eY(p:aW)(hp:dI p):au Tryz.prog 19 [.dat (.eU p)] (.int (zC p)):=by
 refine au.of Bd.eY (by simp) rfl rfl ?_
 conv=>whnf
 refine ah.pure (S.iH p hp) rfl ?_
 conv=>whnf
 repeat(refine VC.mk id ?_; conv=>whnf)
 refine⟨fun h1=>?_,fun h1=>?_⟩
 ·conv=>whnf
  have h2:eF p=0:=by
   cases hv:(eF p==0) with
   |true=>exact beq_iff_eq.1 hv
   |false=>rw[hv] at h1; cases h1
  refine aA.int ?_
  rw[zC,h2]
  rw[show(bif (eF p !=0) then L9 else kC p)=kC p by rw[h2]; rfl] at h1
  rw[h2] at h1
  rw[show((0:Int)==0&& !(kC p).monadic)=true from h1]; rfl
 ·conv=>whnf
  refine aA.int ?_
  unfold zC
  cases hv:(eF p==0) with
  |false=>rfl
  |true =>
   rw[show(bif (eF p !=0) then L9 else kC p)=kC p by rw[beq_iff_eq.1 hv]; rfl,hv] at h1
   rw[show(true&& !(kC p).monadic)=false from h1]; rfl
theorem S.lF(p:aW)(q:Prop')(hp:dI p)(hq:oO q):au Tryz.prog 31 [.dat (.eU p),.dat (.prop q)] (.int (Bf p q)):=by
 refine au.of Bd.lF (by simp) rfl rfl ?_
 conv=>whnf
 refine ah.pure (S.dH p q hp hq) rfl ?_
 conv=>whnf
 refine⟨fun h1=>?_,fun h1=>?_⟩
 ·conv=>whnf
  exact aA.int (by rw[Bf,h1]; rfl)
 conv=>whnf
 refine ah.pure (S.eY p hp) rfl ?_
 conv=>whnf
 repeat(refine VC.mk (by first|exact id|(intro h; rw[h]; rfl)) ?_; conv=>whnf)
 refine⟨fun h2=>?_,fun h2=>?_⟩
 ·conv=>whnf
  exact aA.int (by rw[Bf,h1,show(zC p !=0||q.kind !=1)=true by simpa using h2]; rfl)
 ·conv=>whnf
  exact aA.int (by rw[Bf,h1,show(zC p !=0||q.kind !=1)=false by simpa using h2]; rfl)
theorem Gf(a:Int)(r:List Int):bW (a::r)=bif a !=0 then a else bW r:=by
 by_cases h:a=0
 ·subst h; rfl
 ·rw[show(a !=0)=true by simp[h]]; simp[bW,h]
theorem Sj{n:Int}{k:Clause}{i:Nat}(hi:i<k.each.length):bW ((k.each.drop i).map (tu n))=bif tu n (k.each.getD i []) !=0 then tu n (k.each.getD i []) else bW ((k.each.drop (i+1)).map (tu n)):=by
 rw[cO [] hi,List.map_cons,Gf]
theorem Gg{p:aW}{l:List Clause}{i:Nat}(hi:i<l.length):bW ((l.drop i).map (xP p))=bif xP p (l.getD i default) !=0 then xP p (l.getD i default) else bW ((l.drop (i+1)).map (xP p)):=by
 rw[cO default hi,List.map_cons,Gf]
theorem S.bT(p:aW)(k:Clause)(hp:dI p)(hk:qY k):au Tryz.prog 21 [.dat (.eU p),.dat (.clause k)] (.int (xP p k)):=by
 have g1:=hp.states; have g2:=hp.values; have k1:=hk.each; have k2:=hk.values; have k3:=hk.some
 refine au.of Bd.bT (by simp) rfl rfl ?_
 conv=>whnf
 refine⟨fun h1=>?_,fun h1=>?_⟩
 ·conv=>whnf
  exact aA.int (by rw[xP,h1]; rfl)
 conv=>whnf
 refine aU.same [2,3,14,15] (fun i:Nat=>[(16,.int i)]) (fun i=>i<=k.each.length/\bW (k.each.map (tu p.states.length))=bW ((k.each.drop i).map (tu p.states.length))) (fun i=>k.each.length-i) 0 rfl (by decide) rfl (fun _=>rfl) ⟨by omega,by simp⟩ ⟨⟨_,rfl,rfl⟩,trivial⟩ ?_
 conv=>whnf
 refine⟨rfl,?_⟩
 rintro i ⟨hi,hf⟩
 have k4:=hk.rows i
 conv=>whnf
 refine⟨fun h3=>?_,fun h3=>?_⟩
 ·have hi':i<k.each.length:=by simpa using h3
  rw[Sj hi'] at hf
  conv=>whnf
  refine .mk (by simp only[Rw.rng] at *; first|omega|(simp_all; done)|(simp_all; omega)) ?_
  conv=>whnf
  refine ah.pure (S.jU (k.each.getD i []) p.states.length false (by omega)) rfl ?_
  conv=>whnf
  refine⟨fun h4=>?_,fun h4=>?_⟩
  ·conv=>whnf
   refine aA.int ?_
   have e:tu p.states.length (k.each.getD i [])=iP (k.each.getD i []) p.states.length:=by rw[tu,show(iP (k.each.getD i []) p.states.length !=0)=true from h4]; rfl
   rw[e,show(iP (k.each.getD i []) p.states.length !=0)=true from h4,cond_true] at hf
   rw[xP,h1,hf,show(iP (k.each.getD i []) p.states.length !=0)=true from h4]; rfl
  ·have h4':(iP (k.each.getD i []) p.states.length !=0)=false:=h4
   have e:tu p.states.length (k.each.getD i [])=fQ (((k.each.getD i []).length:Int)==0) 1:=by rw[tu,h4']; rfl
   rw[e] at hf
   conv=>whnf
   refine⟨fun h5=>?_,fun h5=>?_⟩
   ·conv=>whnf
    refine aA.int ?_
    rw[show(((k.each.getD i []).length:Int)==0)=true from h5] at hf
    rw[xP,h1,hf]; rfl
   ·conv=>whnf
    refine .mk (by simp only[okI] at *; first|omega|(simp_all; done)|(simp_all; omega)) ?_
    conv=>whnf
    rw[show(((k.each.getD i []).length:Int)==0)=false from h5] at hf
    refine⟨i+1,⟨by omega,hf⟩,by omega,⟨⟨_,rfl,rfl⟩,trivial⟩,?_,rfl⟩
    repeat' (first|exact trivial|exact⟨_,rfl,rfl⟩|constructor)
 ·have hi':k.each.length<=i:=by simpa using h3
  rw[List.drop_eq_nil_of_le hi'] at hf
  have hf0:bW (k.each.map (tu p.states.length))=0:=hf
  conv=>whnf
  refine ah.pure (S.jU k.values p.values.length false (by omega)) rfl ?_
  conv=>whnf
  refine⟨fun h6=>?_,fun h6=>?_⟩
  ·conv=>whnf
   exact aA.int (by rw[xP,h1,hf0,show(iP k.values p.values.length !=0)=true from h6]; rfl)
  ·conv=>whnf
   refine ah.pure (S.jU k.some p.states.length false (by omega)) rfl ?_
   conv=>whnf
   exact aA.int (by rw[xP,h1,hf0,show(iP k.values p.values.length !=0)=false from h6]; rfl)
theorem S.fB(p:aW)(k:Clause)(hp:dI p)(hk:qY k):au Tryz.prog 28 [.dat (.eU p),.dat (.clause k)] (.int (bif zC p !=0 then zC p else xP p k)):=by
 refine au.of Bd.fB (by simp) rfl rfl ?_
 conv=>whnf
 refine ah.pure (S.eY p hp) rfl ?_
 conv=>whnf
 refine⟨fun h1=>?_,fun h1=>?_⟩
 ·conv=>whnf
  exact aA.int (by rw[h1]; rfl)
 ·conv=>whnf
  refine ah.pure (S.bT p k hp hk) rfl ?_
  conv=>whnf
  exact aA.int (by rw[h1]; rfl)
theorem Jc{l:List Clause}{i:Nat}(hi:i<l.length):bF (l.take (i+1))=max (bF (l.take i)) (nI (l.getD i default)):=by
 unfold bF
 rw[List.take_add_one,List.foldl_append]; simp[hi]
theorem S.lZ(l:List Clause)(f:Bool)(hl:SmallK l):au Tryz.prog 43 [.row 4 f (.clauses l)] (.int (bF l)):=by
 have k1:=hl.len
 refine au.of Bd.lZ (by simp) rfl rfl ?_
 conv=>whnf
 refine aU.same [7,8] (fun i:Nat=>[(9,.int i),(3,.int (bF (l.take i)))]) (fun i=>i<=l.length) (fun i=>l.length-i) 0 rfl (by decide) rfl (fun _=>rfl) (Nat.zero_le _) ⟨⟨_,rfl,rfl⟩,⟨_,rfl,rfl⟩,trivial⟩ ?_
 conv=>whnf
 refine⟨rfl,?_⟩
 rintro i hi
 have k2:=hl.cl i
 have k3:=k2.each; have k4:=k2.some
 conv=>whnf
 refine⟨fun h3=>?_,fun h3=>?_⟩
 ·have hi':i<l.length:=by simpa using h3
  conv=>whnf
  refine .mk (by simp only[Rw.rng] at *; first|omega|(simp_all; done)|(simp_all; omega)) ?_
  conv=>whnf
  refine⟨fun h4=>?_,fun h4=>?_⟩
  ·have h4':0<(l.getD i default).some.length:=by have:=of_decide_eq_true h4; simp only[Int.toNat_natCast] at this; omega
   conv=>whnf
   repeat(refine VC.mk (by simp only[okI] at *; first|omega|(simp_all; done)|(simp_all; omega)) ?_; conv=>whnf)
   refine⟨i+1,by omega,by omega,⟨⟨_,rfl,rfl⟩,⟨_,rfl,?_⟩,trivial⟩,?_,rfl⟩
   ·rw[Jc hi',nI,if_pos h4']; rfl
   ·repeat' (first|exact trivial|exact⟨_,rfl,rfl⟩|constructor)
  ·have h4': ¬ 0<(l.getD i default).some.length:=by have:=of_decide_eq_false h4; simp only[Int.toNat_natCast] at this; omega
   conv=>whnf
   refine .mk (by simp only[okI] at *; first|omega|(simp_all; done)|(simp_all; omega)) ?_
   conv=>whnf
   refine⟨i+1,by omega,by omega,⟨⟨_,rfl,rfl⟩,⟨_,rfl,?_⟩,trivial⟩,?_,rfl⟩
   ·rw[Jc hi',nI,if_neg h4',Int.add_zero]; rfl
   ·repeat' (first|exact trivial|exact⟨_,rfl,rfl⟩|constructor)
 ·have hi':l.length<=i:=by simpa using h3
  rw[List.take_of_length_le hi']
  conv=>whnf
  exact aA.int rfl
def zN(p:aW)(l a:List Clause):Int:=bif mW p l !=0 then mW p l else mW p a
theorem OH{p:aW}{l:List Clause}{k:Clause}(h1:decide ((l.length:Int)>160)=false)(h:bW (l.map (xP p))=xP p k):mW p l=xP p k:=by
 rw[mW,h1,h]; rfl
theorem S.vk(p:aW)(l:List Clause)(g f:Bool)(hp:dI p)(hl:SmallK l):au Tryz.prog 20 [.dat (.eU p),.xO 0 g [.row 4 f (.clauses l)]] (.int (mW p l)):=by
 have k1:=hl.len
 refine au.of Bd.iT (by simp) rfl rfl ?_
 conv=>whnf
 refine aU.times 2 rfl ?_
 conv=>whnf
 refine Fork.mk (fun _=>?_) (fun q=>absurd (q.symm.trans (rfl)) Bool.false_ne_true)
 conv=>whnf
 refine .mk (by omega) ?_
 conv=>whnf
 refine⟨fun ha1=>?_,fun ha1=>?_⟩
 ·conv=>whnf
  exact aA.int (by rw[mW,ha1]; rfl)
 conv=>whnf
 refine aU.same [1,2,10,11,12,19,20] (fun i:Nat=>[(21,.int i)]) (fun i=>i<=l.length/\bW (l.map (xP p))=bW ((l.drop i).map (xP p))) (fun i=>l.length-i) 0 rfl (by decide) rfl (fun _=>rfl) ⟨by omega,by simp⟩ ⟨⟨_,rfl,rfl⟩,trivial⟩ ?_
 conv=>whnf
 refine⟨rfl,?_⟩
 rintro i ⟨hia,hfa⟩
 conv=>whnf
 refine⟨fun ZW=>?_,fun ZW=>?_⟩
 ·have hi':i<l.length:=by simpa using ZW
  rw[Gg hi'] at hfa
  conv=>whnf
  refine .mk (by simp only[Rw.rng] at *; omega) ?_
  conv=>whnf
  refine ah.pure (S.bT p (l.getD i default) hp (hl.cl i)) rfl ?_
  conv=>whnf
  refine⟨fun h4=>?_,fun h4=>?_⟩
  ·conv=>whnf
   rw[show(xP p (l.getD i default) !=0)=true from h4] at hfa
   refine aA.int ?_
   exact(OH ha1 hfa).symm▸rfl
  ·conv=>whnf
   refine .mk (by simp only[okI] at *; omega) ?_
   conv=>whnf
   rw[show(xP p (l.getD i default) !=0)=false from h4] at hfa
   refine⟨i+1,⟨by omega,hfa⟩,by omega,⟨⟨_,rfl,rfl⟩,trivial⟩,?_,rfl⟩
   repeat' (first|exact trivial|exact⟨_,rfl,rfl⟩|constructor)
 have ZX:l.length<=i:=by simpa using ZW
 rw[List.drop_eq_nil_of_le ZX] at hfa
 have hza:mW p l=0:=by rw[mW,ha1,hfa]; rfl
 conv=>whnf
 refine .mk (by simp only[okI] at *; omega) ?_
 conv=>whnf
 refine Fork.mk (fun q=>absurd (q.symm.trans (rfl)).symm Bool.false_ne_true) (fun _=>?_)
 conv=>whnf
 exact aA.int (by rw[hza])
theorem S.Ip(p:aW)(l a:List Clause)(g f f':Bool)(hp:dI p)(hl:SmallK l)(ha:SmallK a):au Tryz.prog 20 [.dat (.eU p),.xO 0 g [.row 4 f (.clauses l),.row 4 f' (.clauses a)]] (.int (zN p l a)):=by
 have k1:=hl.len
 have k2:=ha.len
 refine au.of Bd.iT (by simp) rfl rfl ?_
 conv=>whnf
 refine aU.times 3 rfl ?_
 conv=>whnf
 refine Fork.mk (fun _=>?_) (fun q=>absurd (q.symm.trans (rfl)) Bool.false_ne_true)
 conv=>whnf
 refine .mk (by omega) ?_
 conv=>whnf
 refine⟨fun ha1=>?_,fun ha1=>?_⟩
 ·conv=>whnf
  exact aA.int (by rw[zN,mW,ha1]; rfl)
 conv=>whnf
 refine aU.same [1,2,10,11,12,19,20] (fun i:Nat=>[(21,.int i)]) (fun i=>i<=l.length/\bW (l.map (xP p))=bW ((l.drop i).map (xP p))) (fun i=>l.length-i) 0 rfl (by decide) rfl (fun _=>rfl) ⟨by omega,by simp⟩ ⟨⟨_,rfl,rfl⟩,trivial⟩ ?_
 conv=>whnf
 refine⟨rfl,?_⟩
 rintro i ⟨hia,hfa⟩
 conv=>whnf
 refine⟨fun ZW=>?_,fun ZW=>?_⟩
 ·have hi':i<l.length:=by simpa using ZW
  rw[Gg hi'] at hfa
  conv=>whnf
  refine .mk (by simp only[Rw.rng] at *; omega) ?_
  conv=>whnf
  refine ah.pure (S.bT p (l.getD i default) hp (hl.cl i)) rfl ?_
  conv=>whnf
  refine⟨fun h4=>?_,fun h4=>?_⟩
  ·conv=>whnf
   rw[show(xP p (l.getD i default) !=0)=true from h4] at hfa
   refine aA.int ?_
   rw[zN,OH ha1 hfa,show(xP p (l.getD i default) !=0)=true from h4]; rfl
  ·conv=>whnf
   refine .mk (by simp only[okI] at *; omega) ?_
   conv=>whnf
   rw[show(xP p (l.getD i default) !=0)=false from h4] at hfa
   refine⟨i+1,⟨by omega,hfa⟩,by omega,⟨⟨_,rfl,rfl⟩,trivial⟩,?_,rfl⟩
   repeat' (first|exact trivial|exact⟨_,rfl,rfl⟩|constructor)
 have ZX:l.length<=i:=by simpa using ZW
 rw[List.drop_eq_nil_of_le ZX] at hfa
 have hza:mW p l=0:=by rw[mW,ha1,hfa]; rfl
 conv=>whnf
 refine .mk (by simp only[okI] at *; omega) ?_
 conv=>whnf
 refine Fork.mk (fun _=>?_) (fun q=>absurd (q.symm.trans (rfl)) Bool.false_ne_true)
 conv=>whnf
 refine .mk (by omega) ?_
 conv=>whnf
 refine⟨fun hb1=>?_,fun hb1=>?_⟩
 ·conv=>whnf
  exact aA.int (by rw[zN,hza,mW,hb1]; rfl)
 conv=>whnf
 refine aU.same [1,2,10,11,12,19,20] (fun i:Nat=>[(21,.int i)]) (fun i=>i<=a.length/\bW (a.map (xP p))=bW ((a.drop i).map (xP p))) (fun i=>a.length-i) 0 rfl (by decide) rfl (fun _=>rfl) ⟨by omega,by simp⟩ ⟨⟨_,rfl,rfl⟩,trivial⟩ ?_
 conv=>whnf
 refine⟨rfl,?_⟩
 rintro j ⟨hib,hfb⟩
 conv=>whnf
 refine⟨fun hb3=>?_,fun hb3=>?_⟩
 ·have hi':j<a.length:=by simpa using hb3
  rw[Gg hi'] at hfb
  conv=>whnf
  refine .mk (by simp only[Rw.rng] at *; omega) ?_
  conv=>whnf
  refine ah.pure (S.bT p (a.getD j default) hp (ha.cl j)) rfl ?_
  conv=>whnf
  refine⟨fun h4=>?_,fun h4=>?_⟩
  ·conv=>whnf
   rw[show(xP p (a.getD j default) !=0)=true from h4] at hfb
   refine aA.int ?_
   rw[zN,hza]; exact(OH hb1 hfb).symm▸rfl
  ·conv=>whnf
   refine .mk (by simp only[okI] at *; omega) ?_
   conv=>whnf
   rw[show(xP p (a.getD j default) !=0)=false from h4] at hfb
   refine⟨j+1,⟨by omega,hfb⟩,by omega,⟨⟨_,rfl,rfl⟩,trivial⟩,?_,rfl⟩
   repeat' (first|exact trivial|exact⟨_,rfl,rfl⟩|constructor)
 have acY:a.length<=j:=by simpa using hb3
 rw[List.drop_eq_nil_of_le acY] at hfb
 have hzb:mW p a=0:=by rw[mW,hb1,hfb]; rfl
 conv=>whnf
 refine .mk (by simp only[okI] at *; omega) ?_
 conv=>whnf
 refine Fork.mk (fun q=>absurd (q.symm.trans (rfl)).symm Bool.false_ne_true) (fun _=>?_)
 conv=>whnf
 exact aA.int (by rw[zN,hza,hzb]; rfl)
def dF(l:List Clause)(e:Elem):Nat:=l.findIdx fun k=> !holdsB k e
def bC(l:List Clause)(e:Elem):Bool:=l.all fun k=>holdsB k e
theorem OI{α:Type}{l:List α}{p q:α->Bool}:l.findIdx (fun x=>p x||q x)=min (l.findIdx p) (l.findIdx q):=by
 induction l with
 |nil=>rfl
 |cons x r ih =>
  rw[List.findIdx_cons,List.findIdx_cons,List.findIdx_cons]
  cases p x<;>cases q x<;>simp only[Bool.or_true,Bool.or_false,cond_true,cond_false]<;>omega
theorem OJ{α:Type}{l:List α}:l.findIdx (fun _=>false)=l.length:=by
 induction l with
 |nil=>rfl
 |cons x r ih=>rw[List.findIdx_cons,ih]; rfl
theorem Eo{α:Type}{l:List α}{p:α->Bool}:(l.findIdx p==l.length)=l.all fun x=> !p x:=by
 induction l with
 |nil=>rfl
 |cons x r ih =>
  rw[List.findIdx_cons,List.all_cons,List.length_cons]
  cases p x with
  |true=>simp
  |false=>rw[<- ih]; simp
def Ai(l:List Clause)(es:List Elem):Nat:=es.foldl (fun m e=>min m (dF l e)) l.length
def tC(l:List Clause)(es:List Elem):Nat:=l.findIdx fun k=>es.any fun e=> !holdsB k e
theorem Vf{l:List Clause}{es:List Elem}:Ai l es=tC l es:=by
 have: ∀ (es:List Elem) (m:Nat),m<=l.length->es.foldl (fun m e=>min m (dF l e)) m=min m (tC l es):=by
  intro es
  induction es with
  |nil=>intro m hm; show m=min m (l.findIdx fun _=>false); rw[OJ]; omega
  |cons e es ih =>
   intro m hm
   rw[List.foldl_cons,ih _ (by omega)]
   have:tC l (e::es)=min (dF l e) (tC l es):=OI
   rw[this]; omega
 rw[Ai,this es _ (Nat.le_refl _)]
 have:tC l es<=l.length:=List.findIdx_le_length
 omega
theorem Vg{l:List Clause}{es:List Elem}:tC l es<=l.length:=List.findIdx_le_length
theorem Sl{l:List Clause}{es:List Elem}{i:Nat}(hi:i<es.length):Ai l (es.take (i+1))=min (Ai l (es.take i)) (dF l (es.getD i default)):=by
 unfold Ai
 rw[List.take_add_one,List.foldl_append]; simp[hi]
def orM(n m:Nat):Int:=bif m==n then -1 else m
def stepG(fire:Elem->Option Elem)(l a:List Clause)(s:Nat×Elem)(e:Elem):Nat×Elem :=
 match fire e with
 |none=>s
 |some x=>bif bC l e&&bC a e&&(decide (dF l x<l.length)&&(decide (dF l x<s.1)||dF l x==s.1&&decide (jd e<jd s.2))) then(dF l x,e) else s
def Ep(fire:Elem->Option Elem)(l a:List Clause)(es:List Elem):Nat×Elem:=es.foldl (stepG fire l a) (l.length,⟨0,[]⟩)
theorem Gh{α β:Type}{f:β->α->β}{b:β}{es:List α}{i:Nat}{d:α}(hi:i<es.length):(es.take (i+1)).foldl f b=f ((es.take i).foldl f b) (es.getD i d):=by
 rw[List.take_add_one,List.foldl_append]; simp[hi]
theorem Gi{fire:Elem->Option Elem}{l a:List Clause}{s:Nat×Elem}{e:Elem}(h:s.1<=l.length):(stepG fire l a s e).1<=l.length:=by
 unfold stepG
 split
 ·exact h
 ·cases hc:(bC l e&&bC a e&&(decide (dF l _<l.length)&&(decide (dF l _<s.1)||dF l _==s.1&&decide (jd e<jd s.2)))) with
  |false=>exact h
  |true=>exact List.findIdx_le_length
theorem Gj{fire:Elem->Option Elem}{l a:List Clause}{es:List Elem}:(Ep fire l a es).1<=l.length:=by
 have: ∀ (es:List Elem) (s:Nat×Elem),s.1<=l.length->(es.foldl (stepG fire l a) s).1<=l.length:=by
  intro es
  induction es with
  |nil=>intro s h; exact h
  |cons e es ih=>intro s h; exact ih _ (Gi h)
 exact this es _ (Nat.le_refl _)
def zF(bad:Elem->Bool)(l:List Clause)(s:Option Elem)(e:Elem):Option Elem :=
 bif bad e&&(bC l e&&(s.isNone||decide (jd e<jd (s.getD ⟨0,[]⟩)))) then some e else s
def XP(bad:Elem->Bool)(l:List Clause)(es:List Elem):Option Elem:=es.foldl (zF bad l) none
theorem Vh{bad:Elem->Bool}{l:List Clause}{es:List Elem}{x:Elem}(h:XP bad l es=some x):x∈es:=by
 have: ∀ (es:List Elem) (s:Option Elem) (x:Elem),es.foldl (zF bad l) s=some x->s=some x\/x∈es:=by
  intro es
  induction es with
  |nil=>intro s x h; exact .inl h
  |cons e es ih =>
   intro s x h
   rw[List.foldl_cons] at h
   rcases ih _ x h with h|h
   ·unfold zF at h
    cases hc:(bad e&&(bC l e&&(s.isNone||decide (jd e<jd (s.getD ⟨0,[]⟩))))) with
    |false=>rw[hc] at h; exact .inl h
    |true=>rw[hc] at h; cases h; exact .inr (by simp)
   ·exact .inr (List.mem_cons_of_mem _ h)
 rcases this es none x h with h|h
 ·cases h
 ·exact h
theorem Sm{l a:List Clause}{e:Elem}:bC (l++a) e=(bC l e&&bC a e):=by simp[bC]
theorem qG{l:List Clause}{e:Elem}:(fZ l e).length=l.length:=by simp[fZ]
theorem Mc{l a:List Clause}{e:Elem}:(fZ (l++a) e).take l.length=fZ l e:=by
 simp[fZ]
theorem QB{l:List Clause}{e:Elem}:(fZ l e).all id=bC l e:=by
 simp[fZ,bC,List.all_map,Function.comp_def]
theorem Sr{l:List Clause}{e:Elem}:(fZ l e).findIdx (fun b=> !b)=dF l e:=by
 unfold fZ dF
 induction l with
 |nil=>rfl
 |cons k l ih=>rw[List.map_cons,List.findIdx_cons,List.findIdx_cons,ih]
theorem Gl{l a:List Clause}:bF (l++a)=max (bF l) (bF a):=by
 have: ∀ (l:List Clause) (r:Int),0<=r->l.foldl (fun r k=>max r (nI k)) r=max r (bF l):=by
  intro l
  induction l with
  |nil=>intro r hr; show r=max r 0; omega
  |cons x l ih =>
   intro r hr
   have h0:0<=nI x:=by unfold nI; split<;>omega
   show l.foldl _ (max r (nI x))=max r (l.foldl _ (max 0 (nI x)))
   rw[ih _ (by omega),ih (max 0 (nI x)) (by omega)]; omega
 show(l++a).foldl _ 0=_
 rw[List.foldl_append]; exact this a (bF l) qF
theorem getM{α:Type}{l:List α}{i:Nat}{d:α}(hi:i<l.length):l.getD i d∈l:=by
 rw[show l.getD i d=l[i] by simp[hi]]; exact List.getElem_mem hi
theorem Dk.g{c:List Int}(h:Dk c)(i:Nat):0<=c.getD i 0/\c.getD i 0<=1048576:=by
 by_cases hi:i<c.length
 ·exact h.get hi
 ·rw[show c.getD i 0=0 by simp[List.getD_eq_getElem?_getD,List.getElem?_eq_none (by omega:c.length<=i)]]; omega
structure ZY(k:Clause)(e:Elem):Prop where
 cl: ∃ vals,zD e.counts.length vals k
 ok:Dk e.counts
 len:e.counts.length<=6
theorem En.len{n:Nat}: ∀ {l:List Int},En n l->l.length<=n:=by
 intro l h
 have: ∀ (l:List Int) (b:Int),(∀ x∈l,b<=x/\x<n)->l.Pairwise (· < ·)->(l.length:Int)<=n-b\/l=[]:=by
  intro l
  induction l with
  |nil=>intro b _ _; exact .inr rfl
  |cons x r ih =>
   intro b hb hp
   have h1:=hb x (by simp)
   rw[List.pairwise_cons] at hp
   rcases ih (x+1) (fun y hy=>⟨by have:=hp.1 y hy; omega,(hb y (List.mem_cons_of_mem _ hy)).2⟩) hp.2 with h2|h2
   ·left; rw[List.length_cons]; omega
   ·left; subst h2; simp only[List.length_cons,List.length_nil]; omega
 rcases this l 0 h.1 h.2 with h2|h2
 ·omega
 ·subst h2; simp
theorem En.place{n:Nat}{l:List Int}(h:En n l):rC n l:=h.1
def oV(starts:List Int)(e:Elem):Bool:= !(XI e.counts starts)&&(e.value==0)
theorem abM{Z:Nat->Prop}{h:Hz}{j:Nat}{v:Int}{l:List Int}(hz:Z j)(q:h.get j=some (jK l)):T.sub Z h.aj (fU ⟨v,l⟩) (.agg [.int v,.own j]):=by
 have:=FU hz q
 show T.sub Z h.aj (.agg [.int v,.sl 0 false (l.map T.int)]) (.agg [.int v,.own j])
 replace this:T.sub Z h.aj (.sl 0 false (l.map T.int)) (.own j):=this
 simp only[T.sub] at this
 simp only[T.sub,T.cu]
 exact⟨trivial,this,trivial⟩
theorem Md{Z:Nat->Prop}{h:Hz}{i j:Nat}{l:List Elem}{e:Elem}(q:h.get i=some (.row 38 3 (.elems l) [.agg [.int e.value,.own j]]))(hi: ¬ Z i)(hz:Z j)(qj:h.get j=some (jK e.counts)) :
  ∃ o',h.get i=some o'/\ ¬ Z i/\o'.aG.ty=(jE (l++[e])).aG.ty/\o'.aG.k=(jE (l++[e])).aG.k/\T.cu Z h.aj (jE (l++[e])).aG.l o'.aG.l/\(jE (l++[e])).aG.l.map T.kd=o'.aG.l.map T.kd/\(jE (l++[e])).aG.l.map iw=o'.aG.l.map iw:=by
 have e1:(jE (l++[e])).aG.l=l.map fU++[fU e]:=by simp[OV.aG,Rw.aS,V.aS]
 refine⟨_,q,hi,rfl,rfl,?_,?_,?_⟩
 ·rw[e1]
  exact Es (bP _) ⟨abM hz qj,trivial⟩
 ·rw[e1]; show _=List.map T.kd (l.map fU++[.agg [.int e.value,.own j]])
  rw[List.map_append,List.map_append]; rfl
 ·rw[e1]; show _=List.map iw (l.map fU++[.agg [.int e.value,.own j]])
  rw[List.map_append,List.map_append]; rfl
theorem wW{b n:Nat}(hb:b<=9)(hn:n<=6):b^n<=531441:=Nat.le_trans (Nat.pow_le_pow_left hb n) (Nat.le_trans (Nat.pow_le_pow_right (by decide) hn) (by decide))
end Go.Proofs.YtiakcepnlcpanaaGreatDoor
