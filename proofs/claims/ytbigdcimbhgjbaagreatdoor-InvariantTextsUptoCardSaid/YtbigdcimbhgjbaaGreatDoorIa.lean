/-
 A part of the proof. No condition.
-/
import Derived.Test.YtbigdcimbhgjbaaGreatDoorLg
import Derived.Test.YtbigdcimbhgjbaaGreatDoorFa
import Derived.Test.YtbigdcimbhgjbaaGreatDoorKa
namespace Go.Proofs.YtbigdcimbhgjbaaGreatDoor
open Go.Ab Go.Proofs
set_option maxRecDepth 100000
def iR(c:List Int)(x:Int):List Int:=c.set x.toNat (c.getD x.toNat 0-1)
def uJ:List (List Int)->List Int->List Int->Bool
 |[],l,c=>l.any fun x=>decide (c.getD x.toNat 0>0)
 |s::r,l,c=>s.all fun x=>c.getD x.toNat 0==0||uJ r l (iR c x)
def VT(k:Clause)(v:Int):Bool:=decide ((k.values.length:Int)>0)&& !(k.values.any fun y=>v==y)
def holdsB(k:Clause)(e:Elem):Bool:=VT k e.value||uJ k.each k.some e.counts
def uK(n:Nat)(l:List Int):Prop:=(∀ x∈l,0<=x/\x<n)/\l.Pairwise (· < ·)
structure Ak(n vals:Nat)(k:Clause):Prop where
 two:k.each.length<=2
 each: ∀ s∈k.each,uK n s/\s≠[]
 values:uK vals k.values
 some:uK n k.some
theorem CU{c:List Int}{a b:Int}(ha:0<=a/\a<c.length)(hb:0<=b):(iR c a).getD b.toNat 0=c.getD b.toNat 0-(if b=a then 1 else 0):=by
 unfold iR
 by_cases e:b=a
 ·subst e
  have:b.toNat<c.length:=by omega
  rw[if_pos rfl]
  simp[this]
 ·rw[if_neg e]
  have hne:a.toNat≠b.toNat:=by omega
  simp[List.getD_eq_getElem?_getD,List.getElem?_set_ne hne]
theorem PV{α:Type}{l:List α}{p q:α->Bool}(h: ∀ x∈l,p x=q x):l.all p=l.all q:=by
 induction l with
 |nil=>rfl
 |cons x r ih=>rw[List.all_cons,List.all_cons,h x (by simp),ih fun y hy=>h y (List.mem_cons_of_mem _ hy)]
theorem PW{α:Type}{l:List α}{p q:α->Bool}(h: ∀ x∈l,p x=q x):l.any p=l.any q:=by
 induction l with
 |nil=>rfl
 |cons x r ih=>rw[List.any_cons,List.any_cons,h x (by simp),ih fun y hy=>h y (List.mem_cons_of_mem _ hy)]
theorem aaO{c:List Int}(h: ∀ x∈c,0<=x)(i:Nat):0<=c.getD i 0:=by
 by_cases hi:i<c.length
 ·rw[show c.getD i 0=c[i] by simp[hi]]; exact h _ (List.getElem_mem hi)
 ·rw[show c.getD i 0=0 by simp[List.getD_eq_getElem?_getD,List.getElem?_eq_none (by omega:c.length<=i)]]; omega
def aaP(r:Int)(c d:List Int):Prop:=c.length=d.length/\ ∀ i,0<=c.getD i 0/\0<=d.getD i 0/\min (c.getD i 0) r=min (d.getD i 0) r
theorem PX{l:List Int}: ∀ {each:List (List Int)} {r:Int} {c d:List Int},aaP r c d->(each.length:Int)+(if 0<l.length then 1 else 0)<=r->(∀ s∈each,∀ x∈s,0<=x/\x<c.length)->uJ each l c=uJ each l d:=by
 intro each
 induction each with
 |nil =>
  intro r c d h hr _
  cases l with
  |nil=>rfl
  |cons y l =>
   simp only[List.length_cons,if_pos (Nat.succ_pos _),List.length_nil] at hr
   refine PW fun x _=>decide_eq_decide.2 ?_
   have:=h.2 x.toNat
   constructor<;>intro g<;>omega
 |cons s each ih =>
  intro r c d h hr hs
  simp only[List.length_cons] at hr
  have hr1:1<=r:=by split at hr<;>omega
  show(s.all fun x=>c.getD x.toNat 0==0||uJ each l (iR c x))=s.all fun x=>d.getD x.toNat 0==0||uJ each l (iR d x)
  refine PV fun x hx=>?_
  have hxs:=hs s (by simp) x hx
  have hxd:0<=x/\x<d.length:=by rw[<- h.1]; exact hxs
  obtain⟨a1,a2,a3⟩:=h.2 x.toNat
  by_cases hz:c.getD x.toNat 0=0
  ·have:d.getD x.toNat 0=0:=by omega
   rw[hz,this]; rfl
  ·have hd:d.getD x.toNat 0≠0:=by omega
   rw[beq_eq_false_iff_ne.2 hz,beq_eq_false_iff_ne.2 hd,Bool.false_or,Bool.false_or]
   refine ih (r:=r-1) ⟨by simp[iR,h.1],fun i=>?_⟩ (by omega) fun t ht y hy=>by
    have:=hs t (List.mem_cons_of_mem _ ht) y hy
    simpa [iR] using this
   have gi:=h.2 i
   have t1:=CU (c:=c) (b:=(i:Int)) hxs (by omega)
   have t2:=CU (c:=d) (b:=(i:Int)) hxd (by omega)
   simp only[Int.toNat_natCast] at t1 t2
   rw[t1,t2]
   by_cases e:(i:Int)=x
   ·have e':x.toNat=i:=by omega
    rw[e'] at hz hd
    rw[if_pos e]; omega
   ·rw[if_neg e]; omega
def wW(k:Clause):Int:=(k.each.length:Int)+(if 0<k.some.length then 1 else 0)
def dw(l:List Clause):Int:=l.foldl (fun r k=>max r (wW k)) 0
def wK(r:Int)(c:List Int):List Int:=c.map fun x=>min x r
def Am(r:Int)(e:Elem):Elem:=⟨e.value,wK r e.counts⟩
def yV(r:Int)(v:Int)(c:List Int):Int:=c.foldl (fun k x=>k*(r+1)+min x r) v
def keyE(r:Int)(e:Elem):Int:=yV r e.value e.counts
def lN(l:List Clause)(e:Elem):List Bool:=l.map fun k=>holdsB k e
theorem YQ{r:Int}{c:List Int}(hr:0<=r){i:Nat}:(wK r c).getD i 0=min (c.getD i 0) r:=by
 by_cases hi:i<c.length
 ·simp[wK,hi]
 ·rw[show(wK r c).getD i 0=0 by simp[wK,List.getD_eq_getElem?_getD,List.getElem?_eq_none (by omega:c.length<=i)],show c.getD i 0=0 by simp[List.getD_eq_getElem?_getD,List.getElem?_eq_none (by omega:c.length<=i)]]; omega
theorem Gy{l:List Clause}: ∀ {r:Int},r<=l.foldl (fun r k=>max r (wW k)) r/\ ∀ k∈l,wW k<=l.foldl (fun r k=>max r (wW k)) r:=by
 induction l with
 |nil=>intro r; exact⟨by simp,fun k h=>by cases h⟩
 |cons x l ih =>
  intro r
  have:=@ih (max r (wW x))
  rw[List.foldl_cons]
  refine⟨by omega,fun k hk=>?_⟩
  rcases List.mem_cons.1 hk with rfl|hk
  ·omega
  ·exact this.2 k hk
theorem KJ{l:List Clause}{k:Clause}(h:k∈l):wW k<=dw l:=Gy.2 k h
theorem zV{l:List Clause}:0<=dw l:=Gy.1
theorem xW{l:List Clause}(h: ∀ k∈l,k.each.length<=2):dw l<=3:=by
 have: ∀ (l:List Clause) (r:Int),r<=3->(∀ k∈l,k.each.length<=2)->l.foldl (fun r k=>max r (wW k)) r<=3:=by
  intro l
  induction l with
  |nil=>intro r hr _; exact hr
  |cons x l ih =>
   intro r hr h
   rw[List.foldl_cons]
   refine ih _ ?_ fun k hk=>h k (List.mem_cons_of_mem _ hk)
   have:=h x (by simp)
   unfold wW
   split<;>omega
 exact this l 0 (by omega) h
theorem Ea{n vals:Nat}{k:Clause}{e:Elem}{r:Int}(hk:Ak n vals k)(hn:e.counts.length=n)(hc: ∀ x∈e.counts,0<=x)(hr:wW k<=r):holdsB k (Am r e)=holdsB k e:=by
 have hr0:0<=r:=by unfold wW at hr; split at hr<;>omega
 unfold holdsB Am
 congr 1
 refine PX (r:=r) ⟨by simp[wK],fun i=>?_⟩ hr fun s hs x hx=>by
  have:=(hk.each s hs).1.1 x hx
  simpa [wK,hn] using this
 have:=aaO hc i
 rw[YQ hr0]; omega
theorem key_inj{r:Int}(hr:0<=r): ∀ {n:Nat} {v w:Int} {c d:List Int},c.length=n->d.length=n->(∀ x∈c,0<=x)->(∀ x∈d,0<=x)->yV r v c=yV r w d->v=w/\wK r c=wK r d:=by
 intro n
 induction n with
 |zero =>
  intro v w c d hc hd _ _ h
  have:c=[]:=List.eq_nil_of_length_eq_zero hc
  subst this
  have:d=[]:=List.eq_nil_of_length_eq_zero hd
  subst this
  exact⟨h,rfl⟩
 |succ n ih =>
  intro v w c d hc hd pc pd h
  have e1:c≠[]:=by intro e; subst e; simp at hc
  have e2:d≠[]:=by intro e; subst e; simp at hd
  obtain⟨c',x,rfl⟩: ∃ c' x,c=c'++[x]:=⟨_,_,(List.dropLast_concat_getLast e1).symm⟩
  obtain⟨d',y,rfl⟩: ∃ d' y,d=d'++[y]:=⟨_,_,(List.dropLast_concat_getLast e2).symm⟩
  simp only[yV,List.foldl_append,List.foldl_cons,List.foldl_nil] at h
  have hx:=pc x (by simp)
  have hy:=pd y (by simp)
  have hb: ∀ {a b p q:Int},a*(r+1)+p=b*(r+1)+q->0<=p->p<=r->0<=q->q<=r->a=b/\p=q:=by
   intro a b p q h p1 p2 q1 q2
   have hab:(a-b)*(r+1)=q-p:=by rw[Int.sub_mul]; omega
   rcases Int.lt_trichotomy a b with g|g|g
   ·exfalso
    have:(b-a)*(r+1)>=1*(r+1):=Int.mul_le_mul_of_nonneg_right (by omega) (by omega)
    have e:(b-a)*(r+1)= -((a-b)*(r+1)):=by rw[<- Int.neg_mul]; congr 1; omega
    omega
   ·subst g; simp at hab; omega
   ·exfalso
    have:(a-b)*(r+1)>=1*(r+1):=Int.mul_le_mul_of_nonneg_right (by omega) (by omega)
    omega
  obtain⟨h1,h2⟩:=hb h (by omega) (by omega) (by omega) (by omega)
  obtain⟨h3,h4⟩:=ih (by simpa using hc) (by simpa using hd) (fun z hz=>pc z (by simp[hz])) (fun z hz=>pd z (by simp[hz])) h1
  refine⟨h3,?_⟩
  unfold wK at h4 ⊢
  rw[List.map_append,List.map_append,h4]; simp[h2]
structure TG(n:Nat)(e:Elem):Prop where
 len:e.counts.length=n
 nn: ∀ x∈e.counts,0<=x
theorem YR{n vals:Nat}{l:List Clause}{e f:Elem}(hl: ∀ k∈l,Ak n vals k)(he:TG n e)(hf:TG n f)(h:keyE (dw l) e=keyE (dw l) f):lN l e=lN l f:=by
 obtain⟨h1,h2⟩:=key_inj zV he.len hf.len he.nn hf.nn h
 refine List.map_congr_left fun k hk=>?_
 rw[<- Ea (hl k hk) he.len he.nn (KJ hk),<- Ea (hl k hk) hf.len hf.nn (KJ hk)]
 unfold Am
 rw[h1,h2]
theorem YS{n vals:Nat}{l:List Clause}{e:Elem}(hl: ∀ k∈l,Ak n vals k)(he:TG n e):lN l (Am (dw l) e)=lN l e :=
 List.map_congr_left fun k hk=>Ea (hl k hk) he.len he.nn (KJ hk)
def mM(n:Nat)(l:List Clause)(es:List (Int×List Bool)):Prop:= ∀ e,TG n e-> ∀ row,wX (keyE (dw l) e) es=some row->row=lN l e
theorem mM.nil{n:Nat}{l:List Clause}:mM n l []:=fun e _ row h=>by cases h
theorem VU{k:Int}{p:Int×List Bool}: ∀ {es:List (Int×List Bool)} {row:List Bool},wX k (es++[p])=some row->wX k es=some row\/(k=p.1/\row=p.2):=by
 intro es
 induction es with
 |nil =>
  intro row h
  obtain⟨a,b⟩:=p
  simp only[List.nil_append,wX] at h
  cases hb:k==a with
  |true=>rw[hb] at h; cases h; exact .inr ⟨beq_iff_eq.1 hb,rfl⟩
  |false=>rw[hb] at h; cases h
 |cons q es ih =>
  obtain⟨a,b⟩:=q
  intro row h
  simp only[List.cons_append,wX] at h ⊢
  cases hb:k==a with
  |true=>rw[hb] at h; exact .inl h
  |false=>rw[hb] at h; exact ih h
theorem mM.add{n vals:Nat}{l:List Clause}{es:List (Int×List Bool)}{e:Elem}(h:mM n l es)(hl: ∀ k∈l,Ak n vals k)(he:TG n e):mM n l (es++[(keyE (dw l) e,lN l e)]):=by
 intro f hf row hr
 rcases VU hr with hr|⟨h1,rfl⟩
 ·exact h f hf row hr
 ·exact YR hl he hf h1.symm
def kZ(b:Nat):Nat->Nat->List Int
 |0,_=>[]
 |n+1,v=>kZ b n (v / b)++[((v % b:Nat):Int)]
theorem fU{b:Nat}: ∀ {n v:Nat},(kZ b n v).length=n:=by
 intro n
 induction n with
 |zero=>intro v; rfl
 |succ n ih=>intro v; simp[kZ,ih]
theorem Nb{b:Nat}(hb:0<b): ∀ {n v:Nat},∀ x∈kZ b n v,0<=x/\x<b:=by
 intro n
 induction n with
 |zero=>intro v x h; cases h
 |succ n ih =>
  intro v x h
  rcases List.mem_append.1 h with h|h
  ·exact ih x h
  ·rw[List.mem_singleton] at h; subst h
   have:=Nat.mod_lt v hb
   omega
theorem Gz{b n u:Nat}(hb:0<b): ∀ {k:Nat},kZ b (n+k) (u*b^k)=kZ b n u++List.replicate k 0:=by
 intro k
 induction k with
 |zero=>simp
 |succ k ih =>
  rw[<- Nat.add_assoc]
  simp only[kZ]
  rw[Nat.pow_succ,<- Nat.mul_assoc,Nat.mul_div_cancel _ hb,ih,Nat.mul_mod_left,List.append_assoc,List.replicate_succ']
  rfl
theorem Jv{b n:Nat}(hb:0<b):kZ b n 0=List.replicate n 0:=by
 have:=@Gz b 0 0 hb n
 simpa [kZ] using this
theorem VW{b:Nat}(hb:0<b): ∀ {n v:Nat},v<b^n->v≠0->0<(kZ b n v).sum:=by
 intro n
 induction n with
 |zero=>intro v h h0; simp at h; omega
 |succ n ih =>
  intro v h h0
  simp only[kZ,List.sum_append,List.sum_singleton]
  have hnn:0<=(kZ b n (v / b)).sum:=by
   have: ∀ l:List Int,(∀ x∈l,0<=x)->0<=l.sum:=by
    intro l
    induction l with
    |nil=>intro _; simp
    |cons x l ih=>intro h; have:=h x (by simp); have:=ih fun y hy=>h y (by simp[hy]); simp only[List.sum_cons]; omega
   exact this _ fun x hx=>(Nb hb x hx).1
  by_cases hd:v / b=0
  ·have h1:v<b:=by rcases Nat.div_eq_zero_iff.1 hd with h|h<;>omega
   have:v % b=v:=Nat.mod_eq_of_lt h1
   omega
  ·have:v / b<b^n:=by
    rw[Nat.div_lt_iff_lt_mul hb,<- Nat.pow_succ]; exact h
   have:=ih this hd
   omega
def sW(b n v k:Nat):List Int:=kZ b (n-k) (v / b^k)++List.replicate k 0
theorem Jw{b n v k:Nat}(h:k<=n):(sW b n v k).length=n:=by simp[sW,fU]; omega
theorem GH{b n v:Nat}:sW b n v 0=kZ b n v:=by simp[sW]
theorem oQ{b n v k:Nat}(h:k<n):sW b n v k=kZ b (n-k-1) (v / b^k / b)++(((v / b^k % b:Nat):Int)::List.replicate k 0):=by
 unfold sW
 obtain⟨j,hj⟩: ∃ j,n-k=j+1:=⟨n-k-1,by omega⟩
 rw[hj,kZ,List.append_assoc]; rfl
theorem GI{b n v k:Nat}(_h:k<n):sW b n v (k+1)=kZ b (n-k-1) (v / b^k / b)++((0:Int)::List.replicate k 0):=by
 unfold sW
 rw[Nat.pow_succ,<- Nat.div_div_eq_div_mul,Nat.sub_add_eq,List.replicate_succ]
theorem Ry{a b:Nat}(hb:0<b)(h:a % b+1≠b):(a+1) / b=a / b/\(a+1) % b=a % b+1:=by
 have h1:=Nat.mod_lt a hb
 have h2:=Nat.div_add_mod a b
 have e:a+1=(a % b+1)+b*(a / b):=by omega
 have h3:a % b+1<b:=by omega
 constructor
 ·rw[e,Nat.add_mul_div_left _ _ hb,Nat.div_eq_of_lt h3]; omega
 ·rw[e,Nat.add_mul_mod_self_left,Nat.mod_eq_of_lt h3]
theorem VX{a b:Nat}(_hb:0<b)(h:a % b+1=b):(a / b+1)*b=a+1:=by
 have h2:=Nat.div_add_mod a b
 rw[Nat.succ_mul,Nat.mul_comm]; omega
theorem Jy{b n v k:Nat}(hb:0<b)(h:k<n)(h3:v / b^k % b+1≠b)(hv:v+1=(v / b^k+1)*b^k):kZ b (n-k-1) (v / b^k / b)++((((v / b^k % b:Nat):Int)+1)::List.replicate k 0)=kZ b n (v+1):=by
 have e:kZ b n (v+1)=kZ b ((n-k-1+1)+k) ((v / b^k+1)*b^k):=by rw[<- hv]; congr 1; omega
 obtain⟨m1,m2⟩:=Ry hb h3
 rw[e,Gz hb,kZ,List.append_assoc,m1,m2]
 rfl
theorem GK{b v k:Nat}(hb:0<b)(h3:v / b^k % b+1=b)(hv:v+1=(v / b^k+1)*b^k):v+1=(v / b^(k+1)+1)*b^(k+1):=by
 have e:v / b^(k+1)=v / b^k / b:=by rw[Nat.pow_succ,<- Nat.div_div_eq_div_mul]
 rw[e,Nat.pow_succ,Nat.mul_comm (b^k) b,<- Nat.mul_assoc,VX hb h3]
 exact hv
theorem Rz{b n v k:Nat}(hb:0<b)(h:k<n)(hlt:v<b^n)(h3:v / b^k % b+1≠b)(hv:v+1=(v / b^k+1)*b^k):v+1<b^n:=by
 have e:b^n=b^(n-k-1)*b*b^k:=by
  rw[<- Nat.pow_succ,<- Nat.pow_add]; congr 1; omega
 have h1:v / b^k<b^(n-k-1)*b:=by
  rw[Nat.div_lt_iff_lt_mul (Nat.pow_pos hb),<- e]; exact hlt
 have h2:v / b^k+1<b^(n-k-1)*b:=by
  rcases Nat.lt_or_ge (v / b^k+1) (b^(n-k-1)*b) with g|g
  ·exact g
  ·exfalso
   have e2:v / b^k+1=b^(n-k-1)*b:=by omega
   have m:=(Ry hb h3).2
   rw[e2,Nat.mul_mod_left] at m
   omega
 rw[hv,e]
 exact Nat.mul_lt_mul_of_pos_right h2 (Nat.pow_pos hb)
theorem Nc{b n v:Nat}(hlt:v<b^n)(hv:v+1=(v / b^n+1)*b^n):v+1=b^n:=by
 rw[Nat.div_eq_of_lt hlt] at hv; omega
def wL(b n w u:Nat):List Elem:=(List.range u).map fun v=>⟨(w:Int),kZ b n (v+1)⟩
def jW(b n vals:Nat):List Elem:=(List.range vals).flatMap fun w=>wL b n w (b^n-1)
theorem Jz{b n w u:Nat}:wL b n w (u+1)=wL b n w u++[⟨(w:Int),kZ b n (u+1)⟩]:=by
 unfold wL; rw[List.range_succ,List.map_append]; rfl
theorem Eb{b n w:Nat}:jW b n (w+1)=jW b n w++wL b n w (b^n-1):=by
 unfold jW; rw[List.range_succ,List.flatMap_append]; simp
theorem GL{b n w u:Nat}:(wL b n w u).length=u:=by simp[wL]
theorem wY{b n vals:Nat}:(jW b n vals).length=vals*(b^n-1):=by
 induction vals with
 |zero=>simp[jW]
 |succ w ih=>rw[Eb,List.length_append,ih,GL,Nat.succ_mul]
structure GN(b n vals:Nat)(e:Elem):Prop where
 len:e.counts.length=n
 rng: ∀ x∈e.counts,0<=x/\x<b
 val:0<=e.value/\e.value<vals
 pos:0<e.counts.sum
theorem FT{b n vals:Nat}(hb:0<b): ∀ e∈jW b n vals,GN b n vals e:=by
 intro e h
 obtain⟨w,hw,h2⟩:=List.mem_flatMap.1 h
 obtain⟨v,hv,rfl⟩:=List.mem_map.1 h2
 have:=List.mem_range.1 hw
 have:=List.mem_range.1 hv
 have hp:0<b^n:=Nat.pow_pos hb
 exact⟨fU,fun x hx=>Nb hb x hx,⟨by show(0:Int)<=w; omega,by show(w:Int)<vals; omega⟩,VW hb (by omega) (by omega)⟩
structure nS(k:Clause):Prop where
 each:k.each.length<2^30
 rows: ∀ i,(k.each.getD i []).length<2^30
 values:k.values.length<2^30
 some:k.some.length<2^30
structure SmallK(l:List Clause):Prop where
 len:l.length<2^30
 cl: ∀ i,nS (l.getD i default)
def tC(p:aS):Int:=bif dn p==0&& !(jJ p).monadic then 7 else dn p
def Ec(p:aS)(q:Prop'):Int:=bif rX p q !=0 then rX p q else eG (tC p !=0||q.kind !=1) 7
def nP(n:Int)(s:List Int):Int:=bif dX s n !=0 then dX s n else eG ((s.length:Int)==0) 1
def nT(p:aS)(k:Clause):Int :=
 bif decide ((k.each.length:Int)>2) then 1 else
 bif aU (k.each.map (nP p.states.length)) !=0 then aU (k.each.map (nP p.states.length)) else
 bif dX k.values p.values.length !=0 then dX k.values p.values.length else dX k.some p.states.length
def qW(p:aS)(l:List Clause):Int:=bif decide ((l.length:Int)>160) then 4 else aU (l.map (nT p))
theorem S.kL(l:List Int)(n:Int)(f:Bool)(hl:l.length<2^40):ak Tryz.prog 45 [.row 0 f (.ints l),.int n] (.int (dX l n)):=by
 refine ak.of Bd.kL (by simp) rfl rfl ?_
 conv=>whnf
 refine aQ.same [0,1,8,9] (fun i:Nat=>[(10,.int i)]) (fun i=>i<=l.length/\(l.take i).any (fun i=>oI i n)=false) (fun i=>l.length-i) 0 rfl (by decide) rfl (fun _=>rfl) ⟨by omega,by simp⟩ ⟨⟨_,rfl,rfl⟩,trivial⟩ ?_
 conv=>whnf
 refine⟨rfl,?_⟩
 rintro i ⟨hi,hall⟩
 conv=>whnf
 refine⟨fun h3=>?_,fun h3=>?_⟩
 ·have hi':i<l.length:=by simpa using h3
  conv=>whnf
  repeat(refine VC.mk (by first|exact fun h=>⟨h,h⟩|(intro h; rw[h]; rfl)|(simp only[Rw.rng] at *; omega)) ?_; conv=>whnf)
  refine⟨fun h4=>?_,fun h4=>?_⟩
  ·conv=>whnf
   refine au.int ?_
   rw[dX,mQ (d:=0) hi' h4]; rfl
  ·conv=>whnf
   refine .mk (by simp only[okI] at *; omega) ?_
   conv=>whnf
   refine⟨i+1,⟨by omega,?_⟩,by omega,⟨⟨_,rfl,rfl⟩,trivial⟩,?_,rfl⟩
   ·rw[pO (d:=0) hi' hall]; exact h4
   ·repeat' (first|exact trivial|exact⟨_,rfl,rfl⟩|constructor)
 ·have hi':l.length<=i:=by simpa using h3
  rw[List.take_of_length_le hi'] at hall
  conv=>whnf
  refine aQ.same [0] (fun i:Nat=>[(7,.int (i+1))]) (fun i=>(i<l.length\/i=0)/\wM l=wM (l.drop i)) (fun i=>l.length-i) 0 rfl (by decide) rfl (fun _=>rfl) ⟨by omega,by simp⟩ ⟨⟨_,rfl,rfl⟩,trivial⟩ ?_
  conv=>whnf
  refine⟨rfl,?_⟩
  rintro i ⟨hi,hinc⟩
  conv=>whnf
  refine⟨fun h5=>?_,fun h5=>?_⟩
  ·have hi1:i+1<l.length:=by have:=of_decide_eq_true h5; omega
   rw[aZ 0 (show i<l.length by omega),aZ 0 hi1] at hinc
   simp only[wM] at hinc
   rw[<- aZ 0 hi1] at hinc
   conv=>whnf
   repeat(refine VC.mk (by simp only[okI,Rw.rng] at *; omega) ?_; conv=>whnf)
   refine⟨fun h6=>?_,fun h6=>?_⟩
   ·conv=>whnf
    refine au.int ?_
    have e1:((i:Int)+1).toNat=i+1:=by omega
    have e2:((i:Int)+1-1).toNat=i:=by omega
    rw[e1,e2] at h6
    have h6':l.getD (i+1) 0<=l.getD i 0:=of_decide_eq_true h6
    rw[dX,hall,hinc,decide_eq_false (by omega)]; rfl
   ·conv=>whnf
    refine .mk (by simp only[okI] at *; omega) ?_
    conv=>whnf
    have e1:((i:Int)+1).toNat=i+1:=by omega
    have e2:((i:Int)+1-1).toNat=i:=by omega
    rw[e1,e2] at h6
    have h6': ¬ l.getD (i+1) 0<=l.getD i 0:=of_decide_eq_false h6
    rw[decide_eq_true (by omega),Bool.true_and] at hinc
    refine⟨i+1,⟨by omega,hinc⟩,by omega,⟨⟨_,rfl,rfl⟩,trivial⟩,?_,rfl⟩
    repeat' (first|exact trivial|exact⟨_,rfl,rfl⟩|constructor)
  ·conv=>whnf
   refine au.int ?_
   have h5': ¬ ((i:Int)+1<l.length):=of_decide_eq_false h5
   have:wM l=true:=by
    rw[hinc]
    rcases hd:l.drop i with _|⟨a,_|⟨b,r⟩⟩
    ·rfl
    ·rfl
    ·have:=congrArg List.length hd
     simp only[List.length_drop,List.length_cons] at this
     omega
   rw[dX,hall,this]; rfl
theorem S.xX(l:List Int)(n:Int)(f:Bool)(hl:l.length<2^40):ak Tryz.prog 48 [.row 0 f (.ints l),.int n] (.int (dX l n)):=by
 refine ak.of Bd.xX (by simp) rfl rfl ?_
 conv=>whnf
 refine aQ.same [0,1] (fun i:Nat=>[(5,.int i)]) (fun i=>i<=l.length/\(l.take i).any (fun i=>oI i n)=false) (fun i=>l.length-i) 0 rfl (by decide) rfl (fun _=>rfl) ⟨by omega,by simp⟩ ⟨⟨_,rfl,rfl⟩,trivial⟩ ?_
 conv=>whnf
 refine⟨rfl,?_⟩
 rintro i ⟨hi,hall⟩
 conv=>whnf
 refine⟨fun h3=>?_,fun h3=>?_⟩
 ·have hi':i<l.length:=by simpa using h3
  conv=>whnf
  repeat(refine VC.mk (by first|exact id|exact fun h=>⟨h,h⟩|(intro h; rw[h]; rfl)|(intro h; (repeat' apply And.intro)<;>first|exact h|omega|(simp only[Rw.oK]; omega)|(simp only[Rw.rng]; omega))|(simp only[Rw.rng] at *; omega)) ?_; conv=>whnf)
  refine⟨fun h4=>?_,fun h4=>?_⟩
  ·conv=>whnf
   refine au.int ?_
   rw[dX,mQ (d:=0) hi' h4]; rfl
  ·conv=>whnf
   refine .mk (by simp only[okI] at *; omega) ?_
   conv=>whnf
   refine⟨i+1,⟨by omega,?_⟩,by omega,⟨⟨_,rfl,rfl⟩,trivial⟩,?_,rfl⟩
   ·rw[pO (d:=0) hi' hall]; exact h4
   ·repeat' (first|exact trivial|exact⟨_,rfl,rfl⟩|constructor)
 ·have hi':l.length<=i:=by simpa using h3
  rw[List.take_of_length_le hi'] at hall
  conv=>whnf
  refine aQ.same [0] (fun i:Nat=>[(6,.int (i+1))]) (fun i=>(i<l.length\/i=0)/\wM l=wM (l.drop i)) (fun i=>l.length-i) 0 rfl (by decide) rfl (fun _=>rfl) ⟨by omega,by simp⟩ ⟨⟨_,rfl,rfl⟩,trivial⟩ ?_
  conv=>whnf
  refine⟨rfl,?_⟩
  rintro i ⟨hi,hinc⟩
  conv=>whnf
  refine⟨fun h5=>?_,fun h5=>?_⟩
  ·have hi1:i+1<l.length:=by have:=of_decide_eq_true h5; omega
   rw[aZ 0 (show i<l.length by omega),aZ 0 hi1] at hinc
   simp only[wM] at hinc
   rw[<- aZ 0 hi1] at hinc
   conv=>whnf
   repeat(refine VC.mk (by simp only[okI,Rw.rng] at *; omega) ?_; conv=>whnf)
   refine⟨fun h6=>?_,fun h6=>?_⟩
   ·conv=>whnf
    refine au.int ?_
    have e1:((i:Int)+1).toNat=i+1:=by omega
    have e2:((i:Int)+1-1).toNat=i:=by omega
    rw[e1,e2] at h6
    have h6':l.getD i 0>=l.getD (i+1) 0:=of_decide_eq_true h6
    rw[dX,hall,hinc,decide_eq_false (by omega)]; rfl
   ·conv=>whnf
    refine .mk (by simp only[okI] at *; omega) ?_
    conv=>whnf
    have e1:((i:Int)+1).toNat=i+1:=by omega
    have e2:((i:Int)+1-1).toNat=i:=by omega
    rw[e1,e2] at h6
    have h6': ¬ l.getD i 0>=l.getD (i+1) 0:=of_decide_eq_false h6
    rw[decide_eq_true (by omega),Bool.true_and] at hinc
    refine⟨i+1,⟨by omega,hinc⟩,by omega,⟨⟨_,rfl,rfl⟩,trivial⟩,?_,rfl⟩
    repeat' (first|exact trivial|exact⟨_,rfl,rfl⟩|constructor)
  ·conv=>whnf
   refine au.int ?_
   have h5': ¬ ((i:Int)+1<l.length):=of_decide_eq_false h5
   have:wM l=true:=by
    rw[hinc]
    rcases hd:l.drop i with _|⟨a,_|⟨b,r⟩⟩
    ·rfl
    ·rfl
    ·have:=congrArg List.length hd
     simp only[List.length_drop,List.length_cons] at this
     omega
   rw[dX,hall,this]; rfl
theorem S.fA(p:aS)(hp:dK p):ak Tryz.prog 16 [.dat (.eu p)] (.int (tC p)):=by
 refine ak.of Bd.fA (by simp) rfl rfl ?_
 conv=>whnf
 refine ah.pure (S.kE p hp) rfl ?_
 conv=>whnf
 repeat(refine VC.mk id ?_; conv=>whnf)
 refine⟨fun h1=>?_,fun h1=>?_⟩
 ·conv=>whnf
  have h2:dn p=0:=by
   cases hv:(dn p==0) with
   |true=>exact beq_iff_eq.1 hv
   |false=>rw[hv] at h1; cases h1
  refine au.int ?_
  rw[tC,h2]
  rw[show(bif (dn p !=0) then JA else jJ p)=jJ p by rw[h2]; rfl] at h1
  rw[h2] at h1
  rw[show((0:Int)==0&& !(jJ p).monadic)=true from h1]; rfl
 ·conv=>whnf
  refine au.int ?_
  unfold tC
  cases hv:(dn p==0) with
  |false=>rfl
  |true =>
   rw[show(bif (dn p !=0) then JA else jJ p)=jJ p by rw[beq_iff_eq.1 hv]; rfl,hv] at h1
   rw[show(true&& !(jJ p).monadic)=false from h1]; rfl
theorem S.qX(p:aS)(hp:dK p):ak Tryz.prog 20 [.dat (.eu p)] (.int (tC p)):=by
 refine ak.of Bd.qX (by simp) rfl rfl ?_
 conv=>whnf
 refine ah.pure (S.pR p hp) rfl ?_
 conv=>whnf
 refine⟨fun h1=>?_,fun h1=>?_⟩
 ·conv=>whnf
  exact au.int (by rw[tC,show(dn p==0)=false from beq_eq_false_iff_ne.2 (JB h1)]; rfl)
 have h2:=Ce h1
 conv=>whnf
 refine⟨fun h3=>?_,fun h3=>?_⟩
 ·conv=>whnf
  refine au.int ?_
  rw[show(bif (dn p !=0) then JA else jJ p)=jJ p by rw[h2]; rfl] at h3
  rw[tC,h2,show((0:Int)==0&& !(jJ p).monadic)=true from h3]; rfl
 ·conv=>whnf
  refine au.int ?_
  rw[show(bif (dn p !=0) then JA else jJ p)=jJ p by rw[h2]; rfl] at h3
  rw[tC,h2,show((0:Int)==0&& !(jJ p).monadic)=false from h3]; rfl
theorem S.lQ(p:aS)(q:Prop')(hp:dK p)(hq:wH q):ak Tryz.prog 62 [.dat (.eu p),.dat (.prop q)] (.int (Ec p q)):=by
 refine ak.of Bd.lQ (by simp) rfl rfl ?_
 conv=>whnf
 refine ah.pure (S.dN p q hp hq) rfl ?_
 conv=>whnf
 refine⟨fun h1=>?_,fun h1=>?_⟩
 ·conv=>whnf
  exact au.int (by rw[Ec,h1]; rfl)
 conv=>whnf
 refine ah.pure (S.fA p hp) rfl ?_
 conv=>whnf
 repeat(refine VC.mk (by first|exact id|(intro h; rw[h]; rfl)) ?_; conv=>whnf)
 refine⟨fun h2=>?_,fun h2=>?_⟩
 ·conv=>whnf
  exact au.int (by rw[Ec,h1,show(tC p !=0||q.kind !=1)=true by simpa using h2]; rfl)
 ·conv=>whnf
  exact au.int (by rw[Ec,h1,show(tC p !=0||q.kind !=1)=false by simpa using h2]; rfl)
theorem GR(a:Int)(r:List Int):aU (a::r)=bif a !=0 then a else aU r:=by
 by_cases h:a=0
 ·subst h; rfl
 ·rw[show(a !=0)=true by simp[h]]; simp[aU,h]
theorem JC{n:Int}{k:Clause}{i:Nat}(hi:i<k.each.length):aU ((k.each.drop i).map (nP n))=bif nP n (k.each.getD i []) !=0 then nP n (k.each.getD i []) else aU ((k.each.drop (i+1)).map (nP n)):=by
 rw[aZ [] hi,List.map_cons,GR]
theorem GU{p:aS}{l:List Clause}{i:Nat}(hi:i<l.length):aU ((l.drop i).map (nT p))=bif nT p (l.getD i default) !=0 then nT p (l.getD i default) else aU ((l.drop (i+1)).map (nT p)):=by
 rw[aZ default hi,List.map_cons,GR]
theorem S.dG(p:aS)(k:Clause)(hp:dK p)(hk:nS k):ak Tryz.prog 28 [.dat (.eu p),.dat (.clause k)] (.int (nT p k)):=by
 have g1:=hp.states; have g2:=hp.values; have k1:=hk.each; have k2:=hk.values; have k3:=hk.some
 refine ak.of Bd.dG (by simp) rfl rfl ?_
 conv=>whnf
 refine⟨fun h1=>?_,fun h1=>?_⟩
 ·conv=>whnf
  exact au.int (by rw[nT,h1]; rfl)
 conv=>whnf
 refine aQ.same [2,3,14,15] (fun i:Nat=>[(16,.int i)]) (fun i=>i<=k.each.length/\aU (k.each.map (nP p.states.length))=aU ((k.each.drop i).map (nP p.states.length))) (fun i=>k.each.length-i) 0 rfl (by decide) rfl (fun _=>rfl) ⟨by omega,by simp⟩ ⟨⟨_,rfl,rfl⟩,trivial⟩ ?_
 conv=>whnf
 refine⟨rfl,?_⟩
 rintro i ⟨hi,hf⟩
 have k4:=hk.rows i
 conv=>whnf
 refine⟨fun h3=>?_,fun h3=>?_⟩
 ·have hi':i<k.each.length:=by simpa using h3
  rw[JC hi'] at hf
  conv=>whnf
  refine .mk (by simp only[Rw.rng] at *; first|omega|(simp_all; done)|(simp_all; omega)) ?_
  conv=>whnf
  refine ah.pure (S.kL (k.each.getD i []) p.states.length false (by omega)) rfl ?_
  conv=>whnf
  refine⟨fun h4=>?_,fun h4=>?_⟩
  ·conv=>whnf
   refine au.int ?_
   have e:nP p.states.length (k.each.getD i [])=dX (k.each.getD i []) p.states.length:=by rw[nP,show(dX (k.each.getD i []) p.states.length !=0)=true from h4]; rfl
   rw[e,show(dX (k.each.getD i []) p.states.length !=0)=true from h4,cond_true] at hf
   rw[nT,h1,hf,show(dX (k.each.getD i []) p.states.length !=0)=true from h4]; rfl
  ·have h4':(dX (k.each.getD i []) p.states.length !=0)=false:=h4
   have e:nP p.states.length (k.each.getD i [])=eG (((k.each.getD i []).length:Int)==0) 1:=by rw[nP,h4']; rfl
   rw[e] at hf
   conv=>whnf
   refine⟨fun h5=>?_,fun h5=>?_⟩
   ·conv=>whnf
    refine au.int ?_
    rw[show(((k.each.getD i []).length:Int)==0)=true from h5] at hf
    rw[nT,h1,hf]; rfl
   ·conv=>whnf
    refine .mk (by simp only[okI] at *; first|omega|(simp_all; done)|(simp_all; omega)) ?_
    conv=>whnf
    rw[show(((k.each.getD i []).length:Int)==0)=false from h5] at hf
    refine⟨i+1,⟨by omega,hf⟩,by omega,⟨⟨_,rfl,rfl⟩,trivial⟩,?_,rfl⟩
    repeat' (first|exact trivial|exact⟨_,rfl,rfl⟩|constructor)
 ·have hi':k.each.length<=i:=by simpa using h3
  rw[List.drop_eq_nil_of_le hi'] at hf
  have hf0:aU (k.each.map (nP p.states.length))=0:=hf
  conv=>whnf
  refine ah.pure (S.kL k.values p.values.length false (by omega)) rfl ?_
  conv=>whnf
  refine⟨fun h6=>?_,fun h6=>?_⟩
  ·conv=>whnf
   exact au.int (by rw[nT,h1,hf0,show(dX k.values p.values.length !=0)=true from h6]; rfl)
  ·conv=>whnf
   refine ah.pure (S.kL k.some p.states.length false (by omega)) rfl ?_
   conv=>whnf
   exact au.int (by rw[nT,h1,hf0,show(dX k.values p.values.length !=0)=false from h6]; rfl)
theorem S.uM(p:aS)(k:Clause)(hp:dK p)(hk:nS k):ak Tryz.prog 31 [.dat (.eu p),.dat (.clause k)] (.int (nT p k)):=by
 have g1:=hp.states; have g2:=hp.values; have k1:=hk.each; have k2:=hk.values; have k3:=hk.some
 refine ak.of Bd.uM (by simp) rfl rfl ?_
 conv=>whnf
 refine⟨fun h1=>?_,fun h1=>?_⟩
 ·conv=>whnf
  exact au.int (by rw[nT,h1]; rfl)
 conv=>whnf
 refine aQ.same [2,3] (fun i:Nat=>[(5,.int i)]) (fun i=>i<=k.each.length/\aU (k.each.map (nP p.states.length))=aU ((k.each.drop i).map (nP p.states.length))) (fun i=>k.each.length-i) 0 rfl (by decide) rfl (fun _=>rfl) ⟨by omega,by simp⟩ ⟨⟨_,rfl,rfl⟩,trivial⟩ ?_
 conv=>whnf
 refine⟨rfl,?_⟩
 rintro i ⟨hi,hf⟩
 have k4:=hk.rows i
 conv=>whnf
 refine⟨fun h3=>?_,fun h3=>?_⟩
 ·have hi':i<k.each.length:=by simpa using h3
  rw[JC hi'] at hf
  conv=>whnf
  refine .mk (by simp only[Rw.rng] at *; first|omega|(simp_all; done)|(simp_all; omega)) ?_
  conv=>whnf
  refine ah.pure (S.xX (k.each.getD i []) p.states.length false (by omega)) rfl ?_
  conv=>whnf
  refine⟨fun h4=>?_,fun h4=>?_⟩
  ·conv=>whnf
   refine au.int ?_
   have e:nP p.states.length (k.each.getD i [])=dX (k.each.getD i []) p.states.length:=by rw[nP,show(dX (k.each.getD i []) p.states.length !=0)=true from h4]; rfl
   rw[e,show(dX (k.each.getD i []) p.states.length !=0)=true from h4,cond_true] at hf
   rw[nT,h1,hf,show(dX (k.each.getD i []) p.states.length !=0)=true from h4]; rfl
  ·have h4':(dX (k.each.getD i []) p.states.length !=0)=false:=h4
   have e:nP p.states.length (k.each.getD i [])=eG (((k.each.getD i []).length:Int)==0) 1:=by rw[nP,h4']; rfl
   rw[e] at hf
   conv=>whnf
   refine .mk (by simp only[Rw.rng] at *; first|omega|(simp_all; done)|(simp_all; omega)) ?_
   conv=>whnf
   refine⟨fun h5=>?_,fun h5=>?_⟩
   ·conv=>whnf
    refine au.int ?_
    rw[show(((k.each.getD i []).length:Int)==0)=true from h5] at hf
    rw[nT,h1,hf]; rfl
   ·conv=>whnf
    refine .mk (by simp only[okI] at *; first|omega|(simp_all; done)|(simp_all; omega)) ?_
    conv=>whnf
    rw[show(((k.each.getD i []).length:Int)==0)=false from h5] at hf
    refine⟨i+1,⟨by omega,hf⟩,by omega,⟨⟨_,rfl,rfl⟩,trivial⟩,?_,rfl⟩
    repeat' (first|exact trivial|exact⟨_,rfl,rfl⟩|constructor)
 ·have hi':k.each.length<=i:=by simpa using h3
  rw[List.drop_eq_nil_of_le hi'] at hf
  have hf0:aU (k.each.map (nP p.states.length))=0:=hf
  conv=>whnf
  refine ah.pure (S.xX k.values p.values.length false (by omega)) rfl ?_
  conv=>whnf
  refine⟨fun h6=>?_,fun h6=>?_⟩
  ·conv=>whnf
   exact au.int (by rw[nT,h1,hf0,show(dX k.values p.values.length !=0)=true from h6]; rfl)
  ·conv=>whnf
   refine ah.pure (S.xX k.some p.states.length false (by omega)) rfl ?_
   conv=>whnf
   exact au.int (by rw[nT,h1,hf0,show(dX k.values p.values.length !=0)=false from h6]; rfl)
theorem S.fB(p:aS)(k:Clause)(hp:dK p)(hk:nS k):ak Tryz.prog 10 [.dat (.eu p),.dat (.clause k)] (.int (bif tC p !=0 then tC p else nT p k)):=by
 refine ak.of Bd.fB (by simp) rfl rfl ?_
 conv=>whnf
 refine ah.pure (S.fA p hp) rfl ?_
 conv=>whnf
 refine⟨fun h1=>?_,fun h1=>?_⟩
 ·conv=>whnf
  exact au.int (by rw[h1]; rfl)
 ·conv=>whnf
  refine ah.pure (S.dG p k hp hk) rfl ?_
  conv=>whnf
  exact au.int (by rw[h1]; rfl)
theorem S.lS(p:aS)(k:Clause)(hp:dK p)(hk:nS k):ak Tryz.prog 14 [.dat (.eu p),.dat (.clause k)] (.int (bif tC p !=0 then tC p else nT p k)):=by
 refine ak.of Bd.lS (by simp) rfl rfl ?_
 conv=>whnf
 refine ah.pure (S.qX p hp) rfl ?_
 conv=>whnf
 refine⟨fun h1=>?_,fun h1=>?_⟩
 ·conv=>whnf
  exact au.int (by rw[h1]; rfl)
 ·conv=>whnf
  refine ah.pure (S.uM p k hp hk) rfl ?_
  conv=>whnf
  exact au.int (by rw[h1]; rfl)
theorem JD{l:List Clause}{i:Nat}(hi:i<l.length):dw (l.take (i+1))=max (dw (l.take i)) (wW (l.getD i default)):=by
 unfold dw
 rw[List.take_add_one,List.foldl_append]; simp[hi]
theorem S.mV(l:List Clause)(f:Bool)(hl:SmallK l):ak Tryz.prog 85 [.row 4 f (.clauses l)] (.int (dw l)):=by
 have k1:=hl.len
 refine ak.of Bd.mV (by simp) rfl rfl ?_
 conv=>whnf
 refine aQ.same [7,8] (fun i:Nat=>[(9,.int i),(3,.int (dw (l.take i)))]) (fun i=>i<=l.length) (fun i=>l.length-i) 0 rfl (by decide) rfl (fun _=>rfl) (Nat.zero_le _) ⟨⟨_,rfl,rfl⟩,⟨_,rfl,rfl⟩,trivial⟩ ?_
 conv=>whnf
 refine⟨rfl,?_⟩
 rintro i hi
 have k2:=hl.cl i
 have k3:=k2.each; have k4:=k2.some
 conv=>whnf
 refine⟨fun h3=>?_,fun h3=>?_⟩
 ·have hi':i<l.length:=by simpa using h3
  conv=>whnf
  refine .mk (by simp only[Rw.rng] at *; first|omega|(simp_all; done)|(simp_all; omega)) ?_
  conv=>whnf
  refine⟨fun h4=>?_,fun h4=>?_⟩
  ·have h4':0<(l.getD i default).some.length:=by have:=of_decide_eq_true h4; simp only[Int.toNat_natCast] at this; omega
   conv=>whnf
   repeat(refine VC.mk (by simp only[okI] at *; first|omega|(simp_all; done)|(simp_all; omega)) ?_; conv=>whnf)
   refine⟨i+1,by omega,by omega,⟨⟨_,rfl,rfl⟩,⟨_,rfl,?_⟩,trivial⟩,?_,rfl⟩
   ·rw[JD hi',wW,if_pos h4']; rfl
   ·repeat' (first|exact trivial|exact⟨_,rfl,rfl⟩|constructor)
  ·have h4': ¬ 0<(l.getD i default).some.length:=by have:=of_decide_eq_false h4; simp only[Int.toNat_natCast] at this; omega
   conv=>whnf
   refine .mk (by simp only[okI] at *; first|omega|(simp_all; done)|(simp_all; omega)) ?_
   conv=>whnf
   refine⟨i+1,by omega,by omega,⟨⟨_,rfl,rfl⟩,⟨_,rfl,?_⟩,trivial⟩,?_,rfl⟩
   ·rw[JD hi',wW,if_neg h4',Int.add_zero]; rfl
   ·repeat' (first|exact trivial|exact⟨_,rfl,rfl⟩|constructor)
 ·have hi':l.length<=i:=by simpa using h3
  rw[List.take_of_length_le hi']
  conv=>whnf
  exact au.int rfl
def AA(p:aS)(l a:List Clause):Int:=bif qW p l !=0 then qW p l else qW p a
theorem PY{p:aS}{l:List Clause}{k:Clause}(h1:decide ((l.length:Int)>160)=false)(h:aU (l.map (nT p))=nT p k):qW p l=nT p k:=by
 rw[qW,h1,h]; rfl
theorem S.AB(p:aS)(l:List Clause)(g f:Bool)(hp:dK p)(hl:SmallK l):ak Tryz.prog 40 [.dat (.eu p),.yQ 0 g [.row 4 f (.clauses l)]] (.int (qW p l)):=by
 have k1:=hl.len
 refine ak.of Bd.jf (by simp) rfl rfl ?_
 conv=>whnf
 refine aQ.times 2 rfl ?_
 conv=>whnf
 refine Fork.mk (fun _=>?_) (fun q=>absurd (q.symm.trans (rfl)) Bool.false_ne_true)
 conv=>whnf
 refine .mk (by omega) ?_
 conv=>whnf
 refine⟨fun ha1=>?_,fun ha1=>?_⟩
 ·conv=>whnf
  exact au.int (by rw[qW,ha1]; rfl)
 conv=>whnf
 refine aQ.same [1,2,10,11,12,19,20] (fun i:Nat=>[(21,.int i)]) (fun i=>i<=l.length/\aU (l.map (nT p))=aU ((l.drop i).map (nT p))) (fun i=>l.length-i) 0 rfl (by decide) rfl (fun _=>rfl) ⟨by omega,by simp⟩ ⟨⟨_,rfl,rfl⟩,trivial⟩ ?_
 conv=>whnf
 refine⟨rfl,?_⟩
 rintro i ⟨hia,hfa⟩
 conv=>whnf
 refine⟨fun ha3=>?_,fun ha3=>?_⟩
 ·have hi':i<l.length:=by simpa using ha3
  rw[GU hi'] at hfa
  conv=>whnf
  refine .mk (by simp only[Rw.rng] at *; omega) ?_
  conv=>whnf
  refine ah.pure (S.dG p (l.getD i default) hp (hl.cl i)) rfl ?_
  conv=>whnf
  refine⟨fun h4=>?_,fun h4=>?_⟩
  ·conv=>whnf
   rw[show(nT p (l.getD i default) !=0)=true from h4] at hfa
   refine au.int ?_
   exact(PY ha1 hfa).symm▸rfl
  ·conv=>whnf
   refine .mk (by simp only[okI] at *; omega) ?_
   conv=>whnf
   rw[show(nT p (l.getD i default) !=0)=false from h4] at hfa
   refine⟨i+1,⟨by omega,hfa⟩,by omega,⟨⟨_,rfl,rfl⟩,trivial⟩,?_,rfl⟩
   repeat' (first|exact trivial|exact⟨_,rfl,rfl⟩|constructor)
 have aaQ:l.length<=i:=by simpa using ha3
 rw[List.drop_eq_nil_of_le aaQ] at hfa
 have hza:qW p l=0:=by rw[qW,ha1,hfa]; rfl
 conv=>whnf
 refine .mk (by simp only[okI] at *; omega) ?_
 conv=>whnf
 refine Fork.mk (fun q=>absurd (q.symm.trans (rfl)).symm Bool.false_ne_true) (fun _=>?_)
 conv=>whnf
 exact au.int (by rw[hza])
theorem S.I8(p:aS)(l a:List Clause)(g f f':Bool)(hp:dK p)(hl:SmallK l)(ha:SmallK a):ak Tryz.prog 40 [.dat (.eu p),.yQ 0 g [.row 4 f (.clauses l),.row 4 f' (.clauses a)]] (.int (AA p l a)):=by
 have k1:=hl.len
 have k2:=ha.len
 refine ak.of Bd.jf (by simp) rfl rfl ?_
 conv=>whnf
 refine aQ.times 3 rfl ?_
 conv=>whnf
 refine Fork.mk (fun _=>?_) (fun q=>absurd (q.symm.trans (rfl)) Bool.false_ne_true)
 conv=>whnf
 refine .mk (by omega) ?_
 conv=>whnf
 refine⟨fun ha1=>?_,fun ha1=>?_⟩
 ·conv=>whnf
  exact au.int (by rw[AA,qW,ha1]; rfl)
 conv=>whnf
 refine aQ.same [1,2,10,11,12,19,20] (fun i:Nat=>[(21,.int i)]) (fun i=>i<=l.length/\aU (l.map (nT p))=aU ((l.drop i).map (nT p))) (fun i=>l.length-i) 0 rfl (by decide) rfl (fun _=>rfl) ⟨by omega,by simp⟩ ⟨⟨_,rfl,rfl⟩,trivial⟩ ?_
 conv=>whnf
 refine⟨rfl,?_⟩
 rintro i ⟨hia,hfa⟩
 conv=>whnf
 refine⟨fun ha3=>?_,fun ha3=>?_⟩
 ·have hi':i<l.length:=by simpa using ha3
  rw[GU hi'] at hfa
  conv=>whnf
  refine .mk (by simp only[Rw.rng] at *; omega) ?_
  conv=>whnf
  refine ah.pure (S.dG p (l.getD i default) hp (hl.cl i)) rfl ?_
  conv=>whnf
  refine⟨fun h4=>?_,fun h4=>?_⟩
  ·conv=>whnf
   rw[show(nT p (l.getD i default) !=0)=true from h4] at hfa
   refine au.int ?_
   rw[AA,PY ha1 hfa,show(nT p (l.getD i default) !=0)=true from h4]; rfl
  ·conv=>whnf
   refine .mk (by simp only[okI] at *; omega) ?_
   conv=>whnf
   rw[show(nT p (l.getD i default) !=0)=false from h4] at hfa
   refine⟨i+1,⟨by omega,hfa⟩,by omega,⟨⟨_,rfl,rfl⟩,trivial⟩,?_,rfl⟩
   repeat' (first|exact trivial|exact⟨_,rfl,rfl⟩|constructor)
 have aaQ:l.length<=i:=by simpa using ha3
 rw[List.drop_eq_nil_of_le aaQ] at hfa
 have hza:qW p l=0:=by rw[qW,ha1,hfa]; rfl
 conv=>whnf
 refine .mk (by simp only[okI] at *; omega) ?_
 conv=>whnf
 refine Fork.mk (fun _=>?_) (fun q=>absurd (q.symm.trans (rfl)) Bool.false_ne_true)
 conv=>whnf
 refine .mk (by omega) ?_
 conv=>whnf
 refine⟨fun hb1=>?_,fun hb1=>?_⟩
 ·conv=>whnf
  exact au.int (by rw[AA,hza,qW,hb1]; rfl)
 conv=>whnf
 refine aQ.same [1,2,10,11,12,19,20] (fun i:Nat=>[(21,.int i)]) (fun i=>i<=a.length/\aU (a.map (nT p))=aU ((a.drop i).map (nT p))) (fun i=>a.length-i) 0 rfl (by decide) rfl (fun _=>rfl) ⟨by omega,by simp⟩ ⟨⟨_,rfl,rfl⟩,trivial⟩ ?_
 conv=>whnf
 refine⟨rfl,?_⟩
 rintro j ⟨hib,hfb⟩
 conv=>whnf
 refine⟨fun hb3=>?_,fun hb3=>?_⟩
 ·have hi':j<a.length:=by simpa using hb3
  rw[GU hi'] at hfb
  conv=>whnf
  refine .mk (by simp only[Rw.rng] at *; omega) ?_
  conv=>whnf
  refine ah.pure (S.dG p (a.getD j default) hp (ha.cl j)) rfl ?_
  conv=>whnf
  refine⟨fun h4=>?_,fun h4=>?_⟩
  ·conv=>whnf
   rw[show(nT p (a.getD j default) !=0)=true from h4] at hfb
   refine au.int ?_
   rw[AA,hza]; exact(PY hb1 hfb).symm▸rfl
  ·conv=>whnf
   refine .mk (by simp only[okI] at *; omega) ?_
   conv=>whnf
   rw[show(nT p (a.getD j default) !=0)=false from h4] at hfb
   refine⟨j+1,⟨by omega,hfb⟩,by omega,⟨⟨_,rfl,rfl⟩,trivial⟩,?_,rfl⟩
   repeat' (first|exact trivial|exact⟨_,rfl,rfl⟩|constructor)
 have adG:a.length<=j:=by simpa using hb3
 rw[List.drop_eq_nil_of_le adG] at hfb
 have hzb:qW p a=0:=by rw[qW,hb1,hfb]; rfl
 conv=>whnf
 refine .mk (by simp only[okI] at *; omega) ?_
 conv=>whnf
 refine Fork.mk (fun q=>absurd (q.symm.trans (rfl)).symm Bool.false_ne_true) (fun _=>?_)
 conv=>whnf
 exact au.int (by rw[AA,hza,hzb]; rfl)
def fD(l:List Clause)(e:Elem):Nat:=l.findIdx fun k=> !holdsB k e
def iT(l:List Clause)(e:Elem):Bool:=l.all fun k=>holdsB k e
theorem PZ{α:Type}{l:List α}{p q:α->Bool}:l.findIdx (fun x=>p x||q x)=min (l.findIdx p) (l.findIdx q):=by
 induction l with
 |nil=>rfl
 |cons x r ih =>
  rw[List.findIdx_cons,List.findIdx_cons,List.findIdx_cons]
  cases p x<;>cases q x<;>simp only[Bool.or_true,Bool.or_false,cond_true,cond_false]<;>omega
theorem P5{α:Type}{l:List α}:l.findIdx (fun _=>false)=l.length:=by
 induction l with
 |nil=>rfl
 |cons x r ih=>rw[List.findIdx_cons,ih]; rfl
def Bj(l:List Clause)(es:List Elem):Nat:=es.foldl (fun m e=>min m (fD l e)) l.length
def Bl(l:List Clause)(es:List Elem):Nat:=l.findIdx fun k=>es.any fun e=> !holdsB k e
theorem VY{l:List Clause}{es:List Elem}:Bj l es=Bl l es:=by
 have: ∀ (es:List Elem) (m:Nat),m<=l.length->es.foldl (fun m e=>min m (fD l e)) m=min m (Bl l es):=by
  intro es
  induction es with
  |nil=>intro m hm; show m=min m (l.findIdx fun _=>false); rw[P5]; omega
  |cons e es ih =>
   intro m hm
   rw[List.foldl_cons,ih _ (by omega)]
   have:Bl l (e::es)=min (fD l e) (Bl l es):=PZ
   rw[this]; omega
 rw[Bj,this es _ (Nat.le_refl _)]
 have:Bl l es<=l.length:=List.findIdx_le_length
 omega
theorem VZ{l:List Clause}{es:List Elem}:Bl l es<=l.length:=List.findIdx_le_length
theorem TI{l:List Clause}{es:List Elem}{i:Nat}(hi:i<es.length):Bj l (es.take (i+1))=min (Bj l (es.take i)) (fD l (es.getD i default)):=by
 unfold Bj
 rw[List.take_add_one,List.foldl_append]; simp[hi]
def orM(n m:Nat):Int:=bif m==n then -1 else m
def stepG(fire:Elem->Option Elem)(l a:List Clause)(s:Nat×Elem)(e:Elem):Nat×Elem :=
 match fire e with
 |none=>s
 |some x=>bif iT l e&&iT a e&&(decide (fD l x<l.length)&&(decide (fD l x<s.1)||fD l x==s.1&&decide (qY e<qY s.2))) then(fD l x,e) else s
def JE(fire:Elem->Option Elem)(l a:List Clause)(es:List Elem):Nat×Elem:=es.foldl (stepG fire l a) (l.length,⟨0,[]⟩)
theorem GV{α β:Type}{f:β->α->β}{b:β}{es:List α}{i:Nat}{d:α}(hi:i<es.length):(es.take (i+1)).foldl f b=f ((es.take i).foldl f b) (es.getD i d):=by
 rw[List.take_add_one,List.foldl_append]; simp[hi]
theorem V3{fire:Elem->Option Elem}{l a:List Clause}{s:Nat×Elem}{e:Elem}(h:s.1<=l.length):(stepG fire l a s e).1<=l.length:=by
 unfold stepG
 split
 ·exact h
 ·cases hc:(iT l e&&iT a e&&(decide (fD l _<l.length)&&(decide (fD l _<s.1)||fD l _==s.1&&decide (qY e<qY s.2)))) with
  |false=>exact h
  |true=>exact List.findIdx_le_length
theorem Nh{fire:Elem->Option Elem}{l a:List Clause}{es:List Elem}:(JE fire l a es).1<=l.length:=by
 have: ∀ (es:List Elem) (s:Nat×Elem),s.1<=l.length->(es.foldl (stepG fire l a) s).1<=l.length:=by
  intro es
  induction es with
  |nil=>intro s h; exact h
  |cons e es ih=>intro s h; exact ih _ (V3 h)
 exact this es _ (Nat.le_refl _)
def Ap(bad:Elem->Bool)(l:List Clause)(s:Option Elem)(e:Elem):Option Elem :=
 bif bad e&&(iT l e&&(s.isNone||decide (qY e<qY (s.getD ⟨0,[]⟩)))) then some e else s
def YT(bad:Elem->Bool)(l:List Clause)(es:List Elem):Option Elem:=es.foldl (Ap bad l) none
theorem V4{bad:Elem->Bool}{l:List Clause}{es:List Elem}{x:Elem}(h:YT bad l es=some x):x∈es:=by
 have: ∀ (es:List Elem) (s:Option Elem) (x:Elem),es.foldl (Ap bad l) s=some x->s=some x\/x∈es:=by
  intro es
  induction es with
  |nil=>intro s x h; exact .inl h
  |cons e es ih =>
   intro s x h
   rw[List.foldl_cons] at h
   rcases ih _ x h with h|h
   ·unfold Ap at h
    cases hc:(bad e&&(iT l e&&(s.isNone||decide (qY e<qY (s.getD ⟨0,[]⟩))))) with
    |false=>rw[hc] at h; exact .inl h
    |true=>rw[hc] at h; cases h; exact .inr (by simp)
   ·exact .inr (List.mem_cons_of_mem _ h)
 rcases this es none x h with h|h
 ·cases h
 ·exact h
theorem TJ{l a:List Clause}{e:Elem}:iT (l++a) e=(iT l e&&iT a e):=by simp[iT]
theorem tJ{l:List Clause}{e:Elem}:(lN l e).length=l.length:=by simp[lN]
theorem Nj{l a:List Clause}{e:Elem}:(lN (l++a) e).take l.length=lN l e:=by
 simp[lN]
theorem RD{l:List Clause}{e:Elem}:(lN l e).all id=iT l e:=by
 simp[lN,iT,List.all_map,Function.comp_def]
theorem TK{l:List Clause}{e:Elem}:(lN l e).findIdx (fun b=> !b)=fD l e:=by
 unfold lN fD
 induction l with
 |nil=>rfl
 |cons k l ih=>rw[List.map_cons,List.findIdx_cons,List.findIdx_cons,ih]
theorem getM{α:Type}{l:List α}{i:Nat}{d:α}(hi:i<l.length):l.getD i d∈l:=by
 rw[show l.getD i d=l[i] by simp[hi]]; exact List.getElem_mem hi
theorem Fq.g{c:List Int}(h:Fq c)(i:Nat):0<=c.getD i 0/\c.getD i 0<=1048576:=by
 by_cases hi:i<c.length
 ·exact h.get hi
 ·rw[show c.getD i 0=0 by simp[List.getD_eq_getElem?_getD,List.getElem?_eq_none (by omega:c.length<=i)]]; omega
structure acy(k:Clause)(e:Elem):Prop where
 cl: ∃ vals,Ak e.counts.length vals k
 ok:Fq e.counts
 len:e.counts.length<=6
theorem uK.len{n:Nat}: ∀ {l:List Int},uK n l->l.length<=n:=by
 intro l h
 have: ∀ (l:List Int) (b:Int),(∀ x∈l,b<=x/\x<n)->l.Pairwise (· < ·)->(l.length:Int)<=n-b\/l=[]:=by
  intro l
  induction l with
  |nil=>intro b _ _; exact .inr rfl
  |cons x r ih =>
   intro b hb hp
   have h1:=hb x (by simp)
   rw[List.pairwise_cons] at hp
   rcases ih (x+1) (fun y hy=>⟨by have:=hp.1 y hy; omega,(hb y (List.mem_cons_of_mem _ hy)).2⟩) hp.2 with h2|h2
   ·left; rw[List.length_cons]; omega
   ·left; subst h2; simp only[List.length_cons,List.length_nil]; omega
 rcases this l 0 h.1 h.2 with h2|h2
 ·omega
 ·subst h2; simp
theorem uK.place{n:Nat}{l:List Int}(h:uK n l):sK n l:=h.1
def pU(starts:List Int)(e:Elem):Bool:= !(YO e.counts starts)&&(e.value==0)
abbrev CV(l:List (List Int)):OV:=.row 24 0 (.jT l) []
theorem TL(l:List (List Int)):T.bZ (l.map Go.Ab.ints)=true:=by
 rw[gY]; intro t ht; obtain⟨x,_,rfl⟩:=List.mem_map.1 ht; rfl
theorem P6{h:Hz}{j:Nat}{Z:Nat->Prop}{l:List (List Int)}(hz:Z j)(q:h.get j=some (CV l)):T.sub Z h.aj (V.row 0 false (.jT l)).aI (V.own j).aI:=by
 show T.sub Z h.aj (.sl 0 false (l.map Go.Ab.ints)) (.own j)
 simp only[T.sub]
 refine⟨trivial,hz,TL l,by decide,24,?_⟩
 have:=aH q; simpa [OV.aF,Rw.aX,V.aX] using this
theorem acz{Z:Nat->Prop}{h:Hz}{j:Nat}{v:Int}{l:List Int}(hz:Z j)(q:h.get j=some (jV l)):T.sub Z h.aj (sZ ⟨v,l⟩) (.agg [.int v,.own j]):=by
 have:=Jq hz q
 show T.sub Z h.aj (.agg [.int v,.sl 0 false (l.map T.int)]) (.agg [.int v,.own j])
 replace this:T.sub Z h.aj (.sl 0 false (l.map T.int)) (.own j):=this
 simp only[T.sub] at this
 simp only[T.sub,T.dJ]
 exact⟨trivial,this,trivial⟩
theorem Nk{Z:Nat->Prop}{h:Hz}{i j:Nat}{l:List Elem}{e:Elem}(q:h.get i=some (.row 66 3 (.elems l) [.agg [.int e.value,.own j]]))(hi: ¬ Z i)(hz:Z j)(qj:h.get j=some (jV e.counts)) :
  ∃ o',h.get i=some o'/\ ¬ Z i/\o'.aF.ty=(qZ (l++[e])).aF.ty/\o'.aF.k=(qZ (l++[e])).aF.k/\T.dJ Z h.aj (qZ (l++[e])).aF.l o'.aF.l/\(qZ (l++[e])).aF.l.map T.kd=o'.aF.l.map T.kd/\(qZ (l++[e])).aF.l.map iC=o'.aF.l.map iC:=by
 have e1:(qZ (l++[e])).aF.l=l.map sZ++[sZ e]:=by simp[OV.aF,Rw.aX,V.aX]
 refine⟨_,q,hi,rfl,rfl,?_,?_,?_⟩
 ·rw[e1]
  exact yX (cO _) ⟨acz hz qj,trivial⟩
 ·rw[e1]; show _=List.map T.kd (l.map sZ++[.agg [.int e.value,.own j]])
  rw[List.map_append,List.map_append]; rfl
 ·rw[e1]; show _=List.map iC (l.map sZ++[.agg [.int e.value,.own j]])
  rw[List.map_append,List.map_append]; rfl
theorem zW{b n:Nat}(hb:b<=9)(hn:n<=6):b^n<=531441:=Nat.le_trans (Nat.pow_le_pow_left hb n) (Nat.le_trans (Nat.pow_le_pow_right (by decide) hn) (by decide))
end Go.Proofs.YtbigdcimbhgjbaaGreatDoor
