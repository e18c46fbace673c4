/-
 Steps back and steps on belong together. No condition.
-/
import Derived.Test.YtkmldgihhaooaaaGreatDoorQd
namespace Go.Proofs.YtkmldgihhaooaaaGreatDoor
open Go.Ab Go.Proofs
set_option maxRecDepth 100000
theorem nJ{a b:List Int}(hl:a.length=b.length)(h: ∀ j,a.getD j 0<=b.getD j 0):iF a b=true:=jF.2 ⟨hl,fun j _=>h j⟩
theorem Ea{a b:List Int}{i:Int}(hi:i.toNat<b.length)(h0: ∀ j,0<=a.getD j 0):iF (aS a i 1) b=true↔1<=b.getD i.toNat 0/\iF a (aS b i (-1))=true:=by
 constructor
 ·intro h
  have hl:=(jF.1 h).1
  rw[jf] at hl
  have hg:=fun j=>iG h j
  refine⟨?_,nJ (by rw[jf,hl]) fun j=>?_⟩
  ·have:=hg i.toNat
   rw[eX,if_pos ⟨rfl,by omega⟩] at this
   have:=h0 i.toNat
   omega
  ·have:=hg j
   rw[eX] at this ⊢
   rw[hl] at this
   split at this<;>rename_i hc
   ·rw[if_pos hc]; omega
   ·rw[if_neg hc]; exact this
 ·rintro⟨h1,h⟩
  have hl:=(jF.1 h).1
  rw[jf] at hl
  refine nJ (by rw[jf,hl]) fun j=>?_
  have:=iG h j
  rw[eX] at this ⊢
  rw[hl]
  split at this<;>rename_i hc
  ·rw[if_pos hc]; omega
  ·rw[if_neg hc]; exact this
theorem Ii{a b:List Int}{i:Int}(hl:a.length=b.length)(h0: ∀ j,0<=b.getD j 0):iF (fP a i) b=true↔iF a (aS b i 1)=true:=by
 constructor
 ·intro h
  refine nJ (by rw[jf,hl]) fun j=>?_
  have:=iG h j
  rw[OY] at this
  rw[eX]
  rw[hl] at this
  split at this<;>rename_i hc
  ·rw[if_pos hc]; omega
  ·rw[if_neg hc]; exact this
 ·intro h
  refine nJ (by rw[gX,hl]) fun j=>?_
  have h1:=iG h j
  rw[eX] at h1
  rw[OY,hl]
  have h2:=h0 j
  by_cases hc:j=i.toNat/\j<b.length
  ·rw[if_pos hc] at h1 ⊢; omega
  ·rw[if_neg hc] at h1 ⊢; omega
theorem Eb{c:List Int}{i d:Int}:(aS c i d).length=c.length:=jf ..
theorem Ec{l:List Int}{j:Nat}(h:l.length<=j):l.getD j 0=0:=by simp[List.getD_eq_getElem?_getD,List.getElem?_eq_none h]
theorem Bo{r:Rule}{c:List Int}(h:r.all=[]):oP r c=rX r.ex c c.length:=by
 unfold oP
 rw[h,Vr]; rfl
theorem Vs{r:Rule}{e R:List Int}(hall:r.all=[])(hl:e.length=R.length)(he: ∀ j,0<=e.getD j 0)(hR: ∀ j,0<=R.getD j 0)(hx:uG R.length r.ex) :
  (∃ l∈(bif oP r (fP e r.to) then [fP e r.to] else r.ex.map fun x=>aS (fP e r.to) x 1),iF l R=true)↔oP r R=true/\iF e (aS R r.to 1)=true:=by
 have hN: ∀ j,0<=(fP e r.to).getD j 0:=Ed he
 rw[<- Ii hl hR]
 generalize hn:fP e r.to=N at hN
 have hlN:N.length=R.length:=by rw[<- hn,gX,hl]
 cases ha:oP r N with
 |true =>
  constructor
  ·rintro⟨l,h1,h2⟩
   rw[cond_true,List.mem_singleton] at h1
   subst h1
   refine⟨?_,h2⟩
   rw[Bo hall] at ha ⊢
   exact RH h2 hN ha
  ·rintro⟨_,h2⟩
   exact⟨N,by rw[cond_true]; exact List.mem_singleton.2 rfl,h2⟩
 |false =>
  rw[Bo hall] at ha
  constructor
  ·rintro⟨l,h1,h2⟩
   rw[cond_false,List.mem_map] at h1
   obtain⟨x,hx1,rfl⟩:=h1
   obtain⟨hx2,hx3⟩:=hx x hx1
   obtain⟨h3,h4⟩:=(Ea (by omega) hN).1 h2
   refine⟨?_,nJ hlN fun j=>?_⟩
   ·rw[Bo hall]
    unfold rX
    rw[Bool.or_eq_true]
    right
    rw[rY]
    refine⟨x.toNat,by omega,?_⟩
    rw[Bool.and_eq_true]
    refine⟨by have:R.getD x.toNat 0≠0:=(by omega);simpa using this,?_⟩
    rw[show((x.toNat:Nat):Int)=x by omega]
    exact List.any_eq_true.2 ⟨x,hx1,by simp⟩
   ·have:=iG h4 j
    rw[eX] at this
    split at this<;>omega
  ·rintro⟨h1,h2⟩
   rw[Bo hall] at h1
   unfold rX at h1 ha
   rw[Bool.or_eq_true] at h1
   rw[Bool.or_eq_false_iff] at ha
   rcases h1 with h1|h1
   ·rw[h1] at ha; exact absurd ha.1 (by decide)
   ·rw[rY] at h1
    obtain⟨j,hj,h3⟩:=h1
    rw[Bool.and_eq_true] at h3
    have hRj:R.getD j 0≠0:=by simpa using h3.1
    have hNj:N.getD j 0=0:=by
     cases hz:(N.getD j 0==0) with
     |true=>simpa using hz
     |false =>
      have:=List.any_eq_false.1 ha.2 j (List.mem_range.2 (by omega))
      rw[hz,h3.2] at this
      exact absurd rfl this
    obtain⟨y,hy1,hy2⟩:=List.any_eq_true.1 h3.2
    have hyj:y=(j:Int):=by
     have:(j:Int)=y:=by simpa using hy2
     exact this.symm
    subst hyj
    refine⟨aS N (j:Int) 1,by rw[cond_false]; exact List.mem_map.2 ⟨_,hy1,rfl⟩,?_⟩
    refine(Ea (by simpa using hj) hN).2 ⟨by have:=hR j; show 1<=R.getD ((j:Int)).toNat 0; rw[Int.toNat_natCast]; omega,nJ (by rw[Eb,hlN]) fun k=>?_⟩
    have:=iG h2 k
    rw[eX]
    by_cases hc:k=((j:Int)).toNat/\k<R.length
    ·rw[if_pos hc]
     have hk:k=j:=by rw[Int.toNat_natCast] at hc; exact hc.1
     subst hk
     have:=hR k
     omega
    ·rw[if_neg hc]; exact this
theorem XQ{r:Rule}{e R:List Int}(hl:e.length=R.length)(he: ∀ j,0<=e.getD j 0)(hR: ∀ j,0<=R.getD j 0)(hf:r.dS.toNat<R.length) :
  iF (aS (fP (fP e r.to) r.wX) r.dS 1) R=true↔1<=R.getD r.dS.toNat 0/\iF e (aS (aS (aS R r.dS (-1)) r.wX 1) r.to 1)=true:=by
 rw[Ea hf (Ed (Ed he))]
 have key:1<=R.getD r.dS.toNat 0->((iF (fP (fP e r.to) r.wX) (aS R r.dS (-1))=true)↔iF e (aS (aS (aS R r.dS (-1)) r.wX 1) r.to 1)=true):=by
  intro h1
  have hR1: ∀ j,0<=(aS R r.dS (-1)).getD j 0:=fun j=>by
   have:=hR j
   rw[eX]
   split
   ·rename_i hc; rw[<- hc.1] at h1; omega
   ·exact this
  have hR2: ∀ j,0<=(aS (aS R r.dS (-1)) r.wX 1).getD j 0:=fun j=>by
   have:=hR1 j
   rw[eX]
   split<;>omega
  rw[Ii (by rw[gX,Eb,hl]) hR1,Ii (by rw[Eb,Eb,hl]) hR2]
 exact⟨fun⟨h1,h2⟩=>⟨h1,(key h1).1 h2⟩,fun⟨h1,h2⟩=>⟨h1,(key h1).2 h2⟩⟩
def sumP(resp R:List Int)(t i:Nat):Int:=((oU resp t i).map fun x=>R.getD x.toNat 0).sum
theorem Vt{resp R:List Int}{t i:Nat}:sumP resp R t (i+1)=bif resp.getD i 0==(t:Int) then sumP resp R t i+R.getD i 0 else sumP resp R t i:=by
 unfold sumP
 rw[CY]
 cases resp.getD i 0==(t:Int)
 ·rfl
 ·rw[cond_true,cond_true,List.map_append,List.sum_append]; simp
theorem XR{r:Rule}{R:List Int}{t:Nat}(ht:t<R.length)(hp:uG R.length r.response)(hl:r.response.length=R.length): ∀ i,i<=R.length->(rU r R i).getD t 0=sumP r.response R t i:=by
 intro i
 induction i with
 |zero =>
  intro _
  have:(rU r R 0)=List.replicate R.length 0:=rfl
  rw[this,getD_some (by simpa using ht),List.getElem_replicate]; rfl
 |succ i ih =>
  intro hi
  have OZ:=hp (r.response.getD i 0) (by rw[getD_some (by omega)]; exact List.getElem_mem _)
  rw[Bq,eX,ih (by omega),Vt,tV]
  cases h:(r.response.getD i 0==(t:Int)) with
  |true =>
   have:r.response.getD i 0=t:=by simpa using h
   rw[if_pos ⟨by omega,ht⟩]; rfl
  |false =>
   have:r.response.getD i 0≠t:=by simpa using h
   rw[if_neg (by omega)]; rfl
theorem Vu: ∀ {k:Nat} {caps:List Int} {n:Nat},caps.length=k+1->(∀ x∈caps,0<=x)->((∃ s∈jm (k+1) n,iF s caps=true)↔(n:Int)<=caps.sum):=by
 intro k
 induction k with
 |zero =>
  intro caps n hl h0
  match caps,hl with
  |[c],_ =>
   constructor
   ·rintro⟨s,hs,h⟩
    have:s=[(n:Int)]:=by simpa [jm] using hs
    subst this
    have:=iG h 0
    simpa using this
   ·intro h
    exact⟨[(n:Int)],by simp[jm],nJ rfl fun j=>by
     match j with
     |0=>simpa using h
     |j+1=>simp⟩
 |succ k ih =>
  intro caps n hl h0
  match caps,hl with
  |c::caps,hl =>
   have hl':caps.length=k+1:=by simpa using hl
   have hc:=h0 c (by simp)
   have h0': ∀ x∈caps,0<=x:=fun x hx=>h0 x (List.mem_cons_of_mem _ hx)
   have hcons: ∀ (f:Int) (t:List Int),iF (f::t) (c::caps)=true↔f<=c/\iF t caps=true:=fun f t=>by
    constructor
    ·intro h
     refine⟨by simpa using iG h 0,nJ (by have:=(jF.1 h).1; simpa using this) fun j=>by simpa using iG h (j+1)⟩
    ·rintro⟨h1,h2⟩
     refine nJ (by have:=(jF.1 h2).1; simp[this]) fun j=>?_
     match j with
     |0=>simpa using h1
     |j+1=>simpa using iG h2 j
   rw[List.sum_cons]
   constructor
   ·rintro⟨s,hs,h⟩
    simp only[jm,List.mem_flatMap,List.mem_range,List.mem_map] at hs
    obtain⟨f,hf,t,ht,rfl⟩:=hs
    obtain⟨h1,h2⟩:=(hcons _ _).1 h
    have:=(ih hl' h0' (n:=n-f)).1 ⟨t,ht,h2⟩
    omega
   ·intro h
    have hs:0<=caps.sum:=by
     have: ∀ l:List Int,(∀ x∈l,0<=x)->0<=l.sum:=by
      intro l
      induction l with
      |nil=>intro _; simp
      |cons a l ih=>intro g; rw[List.sum_cons]; have:=g a (by simp); have:=ih fun x hx=>g x (List.mem_cons_of_mem _ hx); omega
     exact this _ h0'
    obtain⟨f,hf1,hf2⟩: ∃ f:Nat,f<=n/\(f:Int)<=c/\((n-f:Nat):Int)<=caps.sum:=by
     by_cases hcn:(n:Int)<=c
     ·exact⟨n,Nat.le_refl _,hcn,by rw[Nat.sub_self]; exact hs⟩
     ·exact⟨c.toNat,by omega,by omega,by omega⟩
    obtain⟨t,ht,h2⟩:=(ih hl' h0' (n:=n-f)).2 hf2.2
    refine⟨(f:Int)::t,?_,(hcons _ _).2 ⟨hf2.1,h2⟩⟩
    simp only[jm,List.mem_flatMap,List.mem_range,List.mem_map]
    exact⟨f,by omega,t,ht,rfl⟩
theorem Ul: ∀ {xs ks:List Int} {c:List Int} {i:Nat},Dst xs->(∀ x∈xs,x.toNat<c.length)->xs.length=ks.length->i<xs.length->(lK c xs ks).getD (xs.getD i 0).toNat 0=c.getD (xs.getD i 0).toNat 0+ks.getD i 0:=by
 intro xs
 induction xs with
 |nil=>intro ks c i _ _ _ hi; cases hi
 |cons x xs ih =>
  intro ks c i hd hx hl hi
  cases ks with
  |nil=>cases hl
  |cons k ks =>
   obtain⟨hd1,hd2⟩:=List.pairwise_cons.1 hd
   cases i with
   |zero =>
    show(lK (aS c x k) xs ks).getD x.toNat 0=c.getD x.toNat 0+k
    rw[vN fun y hy=>(hd1 y hy).symm,eX,if_pos ⟨rfl,hx x (by simp)⟩]
   |succ i =>
    have hi':i<xs.length:=Nat.lt_of_succ_lt_succ hi
    have:=ih (c:=aS c x k) (ks:=ks) hd2 (fun y hy=>by rw[Eb]; exact hx y (List.mem_cons_of_mem _ hy)) (Nat.succ.inj hl) hi'
    show(lK (aS c x k) xs ks).getD (xs.getD i 0).toNat 0=c.getD (xs.getD i 0).toNat 0+ks.getD i 0
    rw[this,eX,if_neg fun h=>?_]
    exact hd1 (xs.getD i 0) (by rw[getD_some hi']; exact List.getElem_mem hi') h.1.symm
theorem Vw{resp N R:List Int}(hl:resp.length=N.length)(hlR:R.length=N.length)(h0: ∀ j,0<=N.getD j 0)(hR: ∀ j,0<=R.getD j 0)(hs: ∀ t,N.getD t 0≠0->fQ resp t≠[]): ∀ t,t<=N.length ->
  ((∃ c∈mY resp N (kW N) t,iF c R=true)↔ ∀ u,u<t->N.getD u 0<=sumP resp R u N.length):=by
 intro t
 induction t with
 |zero =>
  intro _
  refine⟨fun _ u hu=>absurd hu (by omega),fun _=>⟨List.replicate N.length 0,by simp[mY,kW],nJ (by simp[hlR]) fun j=>?_⟩⟩
  have:(List.replicate N.length (0:Int)).getD j 0=0:=by
   rw[List.getD_eq_getElem?_getD,List.getElem?_replicate]
   split<;>rfl
  rw[this]; exact hR j
 |succ t ih =>
  intro ht
  have hI:=Um (resp:=resp) (need:=N) (b:=List.replicate N.length 0) (n:=t) (by simp[hl]) (by omega) h0
  rw[yh]
  unfold FP
  have aef: ∀ u,0<=sumP resp R u N.length:=fun u=>by
   unfold sumP
   have: ∀ l:List Int,(∀ x∈l,0<=x)->0<=l.sum:=by
    intro l
    induction l with
    |nil=>intro _; simp
    |cons a l ih=>intro g; rw[List.sum_cons]; have:=g a (by simp); have:=ih fun x hx=>g x (List.mem_cons_of_mem _ hx); omega
   refine this _ fun x hx=>?_
   obtain⟨y,_,rfl⟩:=List.mem_map.1 hx
   exact hR _
  cases hz:(N.getD t 0==0) with
  |true =>
   have hz':N.getD t 0=0:=by simpa using hz
   rw[cond_true,ih (by omega)]
   constructor
   ·intro g u hu
    by_cases hut:u=t
    ·subst hut; rw[hz']; exact aef u
    ·exact g u (by omega)
   ·intro g u hu; exact g u (by omega)
  |false =>
   have hz':N.getD t 0≠0:=by simpa using hz
   obtain⟨m,hm⟩: ∃ m:Nat,N.getD t 0=(m:Int):=⟨(N.getD t 0).toNat,by have:=h0 t; omega⟩
   have hne:=hs t hz'
   have hX:fQ resp t=oU resp t N.length:=by rw[<- hl]; rfl
   obtain⟨k,hk⟩: ∃ k,(fQ resp t).length=k+1:=⟨(fQ resp t).length-1,by have:=List.length_pos_iff.2 hne; omega⟩
   have hdst:=FQ (resp:=resp) (t:=t)
   have hmem: ∀ x∈fQ resp t,∃ j:Nat,j<N.length/\resp.getD j 0=(t:Int)/\x=j:=fun x hx=>by
    obtain⟨j,a,b,c⟩:=yj.1 hx
    exact⟨j,by omega,b,c⟩
   have XT:=Vu (caps:=(fQ resp t).map fun x=>R.getD x.toNat 0) (n:=m) (k:=k) (by rw[List.length_map,hk]) (fun x hx=>by obtain⟨y,_,rfl⟩:=List.mem_map.1 hx; exact hR _)
   have aeg:((fQ resp t).map fun x=>R.getD x.toNat 0).sum=sumP resp R t N.length:=by rw[hX]; rfl
   rw[aeg] at XT
   have hold: ∀ c∈mY resp N (kW N) t,c.length=N.length/\ ∀ x∈fQ resp t,c.getD x.toNat 0=0:=fun c hc=>by
    refine⟨by rw[hI.len c hc,hl],fun x hx=>?_⟩
    obtain⟨j,a,b,rfl⟩:=hmem x hx
    have:=hI.old c hc j (by omega) (by rw[b]; omega)
    rw[Int.toNat_natCast,this,List.getD_eq_getElem?_getD,List.getElem?_replicate]
    split<;>rfl
   rw[cond_false,hm,Int.toNat_natCast]
   constructor
   ·rintro⟨c,hc,h⟩ u hu
    obtain⟨b,hb,hc⟩:=List.mem_flatMap.1 hc
    rw[xq,List.mem_map] at hc
    obtain⟨s,hsm,rfl⟩:=hc
    obtain⟨hb1,hb2⟩:=hold b hb
    have hsl:=y5 hsm
    obtain⟨hs1,hs2⟩:=Ij hsm
    have hxs: ∀ x∈fQ resp t,x.toNat<b.length:=fun x hx=>by obtain⟨j,a,_,rfl⟩:=hmem x hx; rw[Int.toNat_natCast]; omega
    by_cases hut:u=t
    ·subst hut
     rw[hm]
     refine XT.1 ⟨s,by rw[<- hk]; exact hsm,nJ (by rw[List.length_map,hsl]) fun j=>?_⟩
     by_cases hj:j<(fQ resp u).length
     ·have h1:=iG h ((fQ resp u).getD j 0).toNat
      rw[Ul hdst hxs hsl.symm hj] at h1
      have h2:=hb2 ((fQ resp u).getD j 0) (by rw[getD_some hj]; exact List.getElem_mem hj)
      have h3:((fQ resp u).map fun x=>R.getD x.toNat 0).getD j 0=R.getD ((fQ resp u).getD j 0).toNat 0:=by
       rw[getD_some (by rw[List.length_map]; exact hj),List.getElem_map,getD_some hj]
      rw[h3]; omega
     ·rw[Ec (by omega:s.length<=j),Ec (by rw[List.length_map]; omega)]
      exact Int.le_refl _
    ·refine(ih (by omega)).1 ⟨b,hb,nJ (by omega) fun j=>?_⟩ u (by omega)
     have h1:=iG h j
     have h2:b.getD j 0<=(lK b (fQ resp t) s).getD j 0:=by
      have: ∀ (xs ks:List Int) (c:List Int),(∀ k∈ks,0<=k)->c.getD j 0<=(lK c xs ks).getD j 0:=by
       intro xs
       induction xs with
       |nil=>intro ks c _; exact Int.le_refl _
       |cons x xs ih2 =>
        intro ks c hk0
        cases ks with
        |nil=>exact Int.le_refl _
        |cons k ks =>
         have:=ih2 ks (aS c x k) fun y hy=>hk0 y (List.mem_cons_of_mem _ hy)
         have hk:=hk0 k (by simp)
         rw[eX] at this
         show _<=(lK (aS c x k) xs ks).getD j 0
         split at this<;>omega
      exact this _ _ _ hs2
     omega
   ·intro g
    obtain⟨b,hb,h1⟩:=(ih (by omega)).2 fun u hu=>g u (by omega)
    obtain⟨hb1,hb2⟩:=hold b hb
    obtain⟨s,hsm,h2⟩:=XT.2 (by rw[<- hm]; exact g t (by omega))
    have hsl:=y5 hsm
    have hxs: ∀ x∈fQ resp t,x.toNat<b.length:=fun x hx=>by obtain⟨j,a,_,rfl⟩:=hmem x hx; rw[Int.toNat_natCast]; omega
    refine⟨lK b (fQ resp t) s,List.mem_flatMap.2 ⟨b,hb,by rw[xq,hk]; exact List.mem_map.2 ⟨s,hsm,rfl⟩⟩,nJ (by rw[IW]; omega) fun j=>?_⟩
    by_cases hj: ∃ x∈fQ resp t,x.toNat=j
    ·obtain⟨x,hx,rfl⟩:=hj
     obtain⟨i,hi,rfl⟩:=List.getElem_of_mem hx
     have h3:=iG h2 i
     have h4:=Ul (c:=b) (ks:=s) hdst hxs (by omega) hi
     have h5:=hb2 _ (List.getElem_mem hi)
     rw[getD_some hi] at h4
     have h6:((fQ resp t).map fun x=>R.getD x.toNat 0).getD i 0=R.getD ((fQ resp t)[i]).toNat 0:=by
      rw[getD_some (by rw[List.length_map]; exact hi),List.getElem_map]
     rw[h4]; omega
    ·rw[vN fun x hx h=>hj ⟨x,hx,h⟩]
     exact iG h1 j
theorem XU{r:Rule}{e R:List Int}(hl:e.length=R.length)(he: ∀ j,0<=e.getD j 0)(hR: ∀ j,0<=R.getD j 0)(hrl:r.response.length=R.length)(hrp:uG R.length r.response) :
  (∃ l∈(bif pF r.response (fP e r.to) then [] else mY r.response (fP e r.to) (kW (fP e r.to)) (fP e r.to).length),iF l R=true)↔iF e (aS (rU r R R.length) r.to 1)=true:=by
 have hN: ∀ j,0<=(fP e r.to).getD j 0:=Ed he
 have hlN:(fP e r.to).length=R.length:=by rw[gX,hl]
 have hrg: ∀ t,t<R.length->(rU r R R.length).getD t 0=sumP r.response R t R.length:=fun t ht=>XR ht hrp hrl _ (Nat.le_refl _)
 have hpos: ∀ t,0<=sumP r.response R t R.length:=fun t=>by
  unfold sumP
  have: ∀ l:List Int,(∀ x∈l,0<=x)->0<=l.sum:=by
   intro l
   induction l with
   |nil=>intro _; simp
   |cons a l ih=>intro g; rw[List.sum_cons]; have:=g a (by simp); have:=ih fun x hx=>g x (List.mem_cons_of_mem _ hx); omega
  refine this _ fun x hx=>?_
  obtain⟨y,_,rfl⟩:=List.mem_map.1 hx
  exact hR _
 have acs: ∀ j,0<=(rU r R R.length).getD j 0:=fun j=>by
  by_cases hj:j<R.length
  ·rw[hrg j hj]; exact hpos j
  ·rw[Ec (by rw[tV]; omega)]; exact Int.le_refl _
 rw[<- Ii (by rw[tV,hl]) acs]
 generalize fP e r.to=N at hN hlN
 have hle:iF N (rU r R R.length)=true↔ ∀ u,u<N.length->N.getD u 0<=sumP r.response R u N.length:=by
  constructor
  ·intro h u hu
   have:=iG h u
   rw[hrg u (by omega)] at this
   rw[hlN]; exact this
  ·intro h
   refine nJ (by rw[tV,hlN]) fun j=>?_
   by_cases hj:j<N.length
   ·rw[hrg j (by omega),<- hlN]; exact h j hj
   ·rw[Ec (by omega)]; exact acs j
 rw[hle]
 cases hst:pF r.response N with
 |true =>
  constructor
  ·rintro⟨l,h1,_⟩
   rw[cond_true] at h1; cases h1
  ·intro h
   unfold pF at hst
   obtain⟨t,ht,h1⟩:=List.any_eq_true.1 hst
   have ht':=List.mem_range.1 ht
   rw[Bool.and_eq_true] at h1
   have h2:=of_decide_eq_true h1.1
   have h3:Lm r.response t=false:=by simpa using h1.2
   have h4:=h t ht'
   have h5:oU r.response t N.length=[]:=by
    cases hf:oU r.response t N.length with
    |nil=>rfl
    |cons x l =>
     have hx:x∈oU r.response t N.length:=by rw[hf]; simp
     unfold oU at hx
     obtain⟨k,hk,rfl⟩:=List.mem_map.1 hx
     obtain⟨hk1,hk2⟩:=List.mem_filter.1 hk
     have hk3:=List.mem_range.1 hk1
     unfold Lm at h3
     have:=List.any_eq_false.1 h3 (r.response.getD k 0) (by rw[getD_some (by omega)]; exact List.getElem_mem _)
     have hk4:r.response.getD k 0=(t:Int):=by simpa using hk2
     rw[hk4] at this
     simp at this
   have h6:sumP r.response R t N.length=0:=by unfold sumP; rw[h5]; rfl
   omega
 |false =>
  rw[cond_false]
  exact Vw (by omega) (by omega) hN hR (IX hst hN) _ (Nat.le_refl _)
theorem aay{p:aP}{r:Rule}{v a:Int}(ha:0<=a/\a<max 1 (p.values.length:Int)):a∈oJ p r v↔(decide (0<=r.read)&&a !=r.read)=false/\(bif decide (r.write>=0) then r.write else a)=v:=by
 unfold oJ
 by_cases hw:0<=r.write
 ·rw[decide_eq_true hw,Bool.true_and,cond_true,decide_eq_false (by omega: ¬ r.write<0),Bool.false_and]
  by_cases hv:r.write=v
  ·rw[show(r.write !=v)=false by simp[hv],cond_false,cond_false]
   by_cases hr:0<=r.read
   ·rw[decide_eq_true hr,cond_true,Bool.true_and,List.mem_singleton]
    simp[hv]
   ·rw[decide_eq_false hr,cond_false,cond_false,Bool.false_and,List.mem_map]
    refine⟨fun _=>⟨rfl,hv⟩,fun _=>⟨a.toNat,List.mem_range.2 (by omega),by omega⟩⟩
  ·rw[show(r.write !=v)=true by simp[hv],cond_true]
   refine⟨nofun,fun h=>absurd h.2 hv⟩
 ·rw[decide_eq_false hw,Bool.false_and,cond_false,cond_false,decide_eq_true (by omega:r.write<0),Bool.true_and]
  by_cases hr:0<=r.read
  ·rw[decide_eq_true hr,Bool.true_and,Bool.true_and,cond_true]
   by_cases hv:r.read=v
   ·rw[show(r.read !=v)=false by simp[hv],cond_false,List.mem_singleton]
    simp[hv]
   ·rw[show(r.read !=v)=true by simp[hv],cond_true]
    refine⟨nofun,fun h=>?_⟩
    have h1:a=r.read:=by simpa using h.1
    exact absurd (h1.symm.trans h.2) hv
  ·rw[decide_eq_false hr,Bool.false_and,cond_false,cond_false,cond_true,Bool.false_and,List.mem_singleton]
   simp
theorem Ik{v w:Int}{c d:List Int}:kU ⟨v,c⟩ ⟨w,d⟩=true↔v=w/\iF c d=true:=by
 unfold kU
 rw[Bool.and_eq_true,beq_iff_eq]
theorem O1{p:aP}{r:Rule}{e a:Elem}(XJ:zY p e)(hFa:zY p a)(hr:r∈p.rules)(hall:r.all=[]):(∃ y∈uQ p r e,kU y a=true)↔ ∃ x,lM r a=some x/\kU e x=true:=by
 have hX:=XJ.Lp hr
 have hP:=hX.rf.place
 have hle:=XJ.len
 have hla:=hFa.len
 have h6:=XJ.valid.states
 have hpe: ∀ j,0<=e.counts.getD j 0:=fun j=>(qK XJ.nums j).1
 have hpa: ∀ j,0<=a.counts.getD j 0:=fun j=>(qK hFa.nums j).1
 have aaz:e.counts.length=a.counts.length:=by omega
 obtain⟨f1,f2⟩:=hP.src
 have hL:(∃ y∈uQ p r e,kU y a=true)↔a.value∈oJ p r e.value/\1<=a.counts.getD r.fr.toNat 0/\ ∃ l∈zZ r e.counts,iF l (fH a.counts r.fr)=true:=by
  have hsm:=CZ hP XJ.nums (by omega)
  constructor
  ·rintro⟨⟨v,c⟩,h1,h2⟩
   obtain⟨h3,h4⟩:=Nq.1 h1
   obtain⟨av,ac⟩:=a
   obtain⟨rfl,h5⟩:=Ik.1 h2
   obtain⟨l,hl,rfl⟩:=List.mem_map.1 h4
   obtain⟨h6,h7⟩:=(Ea (by have h9:e.counts.length=ac.length:=aaz; show r.fr.toNat<ac.length; omega) fun j=>((hsm l hl).2 j).1).1 h5
   exact⟨h3,h6,l,hl,h7⟩
  ·rintro⟨h1,h2,l,hl,h3⟩
   refine⟨⟨a.value,aS l r.fr 1⟩,Nq.2 ⟨h1,List.mem_map.2 ⟨l,hl,rfl⟩⟩,?_⟩
   obtain⟨av,ac⟩:=a
   exact Ik.2 ⟨rfl,(Ea (by have h9:e.counts.length=ac.length:=aaz; show r.fr.toNat<ac.length; omega) fun j=>((hsm l hl).2 j).1).2 ⟨h2,h3⟩⟩
 rw[hL,aay hFa.val]
 unfold lM
 dsimp only
 by_cases hA:a.counts.getD r.fr.toNat 0=0
 ·rw[show(a.counts.getD r.fr.toNat 0==0)=true from beq_iff_eq.2 hA,Bool.or_true,cond_true]
  refine⟨fun h=>absurd h.2.1 (by omega),fun⟨x,h,_⟩=>by cases h⟩
 rw[show(a.counts.getD r.fr.toNat 0==0)=false from beq_eq_false_iff_ne.2 hA,Bool.or_false]
 have hR: ∀ j,0<=(fH a.counts r.fr).getD j 0:=fun j=>by
  have h1:=hpa j
  have h2:=hpa r.fr.toNat
  show 0<=(aS a.counts r.fr (-1)).getD j 0
  rw[eX]
  split
  ·rename_i hc; rw[hc.1]; omega
  ·exact h1
 have hlR:(fH a.counts r.fr).length=a.counts.length:=by simp[fH]
 have h1A:1<=a.counts.getD r.fr.toNat 0:=by have:=hpa r.fr.toNat; omega
 cases hv:(decide (0<=r.read)&&a.value !=r.read) with
 |true =>
  rw[cond_true]
  exact⟨fun h=>absurd h.1.1 (by decide),fun⟨x,h,_⟩=>by cases h⟩
 |false =>
  rw[cond_false]
  generalize hRR:fH a.counts r.fr=R at hR hlR
  generalize hV:(bif decide (r.write>=0) then r.write else a.value)=w
  have hout: ∀ c:List Int,(∃ x,(some ⟨w,aS c r.to 1⟩:Option Elem)=some x/\kU e x=true)↔w=e.value/\iF e.counts (aS c r.to 1)=true:=fun c=>by
   obtain⟨ev,ec⟩:=e
   constructor
   ·rintro⟨x,h1,h2⟩
    cases h1
    obtain⟨h3,h4⟩:=Ik.1 h2
    exact⟨h3.symm,h4⟩
   ·rintro⟨h1,h2⟩
    exact⟨_,rfl,Ik.2 ⟨h1.symm,h2⟩⟩
  have hno:(∃ x,(none:Option Elem)=some x/\kU e x=true)↔False:=⟨(fun⟨x,h,_⟩=>by cases h),False.elim⟩
  rw[xu]
  rcases hX.rf.kind with hk|hk|hk
  ·rw[show(r.kind==1)=true by simp[hk],cond_true,cond_true,Vs hall (by omega) hpe hR (by rw[hlR,<- aaz]; exact hP.exs)]
   cases ha:oP r R with
   |true =>
    rw[Bool.not_true,cond_false,hout]
    exact⟨fun h=>⟨h.1.2,h.2.2.2⟩,fun h=>⟨⟨(by trivial),h.1⟩,h1A,rfl,h.2⟩⟩
   |false =>
    rw[Bool.not_false,cond_true,hno]
    exact⟨fun h=>absurd h.2.2.1 (by decide),False.elim⟩
  ·rw[show(r.kind==1)=false by simp[hk],show(r.kind==2)=true by simp[hk]]
   simp only[cond_true,cond_false]
   have hpf:r.dS.toNat<R.length:=by have:=hP.acL; omega
   have hl1:(∃ l∈[aS (fP (fP e.counts r.to) r.wX) r.dS 1],iF l R=true)↔iF (aS (fP (fP e.counts r.to) r.wX) r.dS 1) R=true:=by simp
   rw[hl1,XQ (by omega) hpe hR hpf]
   by_cases hz:R.getD r.dS.toNat 0=0
   ·rw[show(R.getD r.dS.toNat 0==0)=true from beq_iff_eq.2 hz,cond_true,hno]
    exact⟨fun h=>absurd h.2.2.1 (by omega),False.elim⟩
   ·rw[show(R.getD r.dS.toNat 0==0)=false from beq_eq_false_iff_ne.2 hz,cond_false,hout]
    have h1:1<=R.getD r.dS.toNat 0:=by have:=hR r.dS.toNat; omega
    exact⟨fun h=>⟨h.1.2,h.2.2.2⟩,fun h=>⟨⟨(by trivial),h.1⟩,h1A,h1,h.2⟩⟩
  ·obtain⟨hr1,hr2⟩:=hP.rsp hk
   rw[show(r.kind==1)=false by simp[hk],show(r.kind==2)=false by simp[hk],show(r.kind==3)=true by simp[hk]]
   simp only[cond_true,cond_false]
   rw[XU (by omega) hpe hR (by omega) (by rw[hlR,<- aaz]; exact hr2),hout]
   exact⟨fun h=>⟨h.1.2,h.2.2⟩,fun h=>⟨⟨(by trivial),h.1⟩,h1A,h.2⟩⟩
theorem XV{p:aP}{x:Elem}(h:(pG p x).1=0):(p.rules.any fun r=>(rO p r x).1 !=0)=false/\(pG p x).2=bF (jZ p x p.rules.length):=by
 unfold pG at h ⊢
 cases h1:p.rules.any (fun r=>(rO p r x).1 !=0) with
 |true=>rw[h1] at h; exact absurd (show(4:Int)=0 from h) (by decide)
 |false =>
  rw[h1,cond_false] at h
  cases h2:decide (100<(bF (jZ p x p.rules.length)).length) with
  |true=>rw[h2] at h; exact absurd (show(4:Int)=0 from h) (by decide)
  |false=>exact⟨rfl,rfl⟩
theorem XW{p:aP}{r:Rule}{e:Elem}(h:(rO p r e).1=0):(rO p r e).2=bF (uQ p r e):=by
 unfold rO at h ⊢
 cases hb:decide (100<(uQ p r e).length)||(uQ p r e).any fun x=> !(x.counts.all Aa) with
 |true=>rw[hb] at h; exact absurd (show(4:Int)=0 from h) (by decide)
 |false=>rfl
theorem aaA{p:aP}{e a:Elem}(hall: ∀ r∈p.rules,r.all=[])(hva:vO p a=0)(XJ:zY p e)(h:(pG p e).1=0):O4 (pG p e).2 a=(Ac p a).any fun x=>kU e x:=by
 have hFa:=aaB hva
 obtain⟨h1,h2⟩:=XV h
 rw[h2,show O4 (bF (jZ p e p.rules.length)) a=O4 (jZ p e p.rules.length) a from IY _ _,Bool.eq_iff_iff]
 unfold O4 Ac
 rw[show(vO p a !=0)=false by simp[hva],cond_false,List.any_eq_true,List.any_eq_true]
 have hr0: ∀ r∈p.rules,(rO p r e).2=bF (uQ p r e):=fun r hr=>XW (by have:=List.any_eq_false.1 h1 r hr; simpa using this)
 constructor
 ·rintro⟨y,hy,hle⟩
  obtain⟨r,hr,hy⟩:=List.mem_flatMap.1 hy
  rw[List.take_length] at hr
  rw[hr0 r hr] at hy
  obtain⟨x,hx,hex⟩:=(O1 XJ hFa hr (hall r hr)).1 ⟨y,rZ hy,hle⟩
  refine⟨x,(uZ _ _).2 (List.mem_filterMap.2 ⟨r,by rw[List.take_length]; exact hr,hx⟩),hex⟩
 ·rintro⟨x,hx,hex⟩
  obtain⟨r,hr,hx⟩:=List.mem_filterMap.1 ((uZ _ _).1 hx)
  rw[List.take_length] at hr
  obtain⟨y,hy,hle⟩:=(O1 XJ hFa hr (hall r hr)).2 ⟨x,hx,hex⟩
  have h3:(bF (uQ p r e)).any (fun z=>kU z a)=true:=by
   rw[IY]
   exact List.any_eq_true.2 ⟨y,hy,hle⟩
  obtain⟨z,hz,hza⟩:=List.any_eq_true.1 h3
  exact⟨z,List.mem_flatMap.2 ⟨r,by rw[List.take_length]; exact hr,by rw[hr0 r hr]; exact hz⟩,hza⟩
theorem XY{α:Type}{P:α->Bool}{l:List α}{i:Nat}{d:α}(h:i<l.length):(l.take (i+1)).any P=((l.take i).any P||P (l.getD i d)):=by
 rw[List.take_succ_eq_append_getElem h,List.any_append,getD_some h]; simp
set_option maxHeartbeats 1000000 in
theorem S.jG(p:aP)(a e:Elem)(hp:fM p)(ha:a.counts.length<2^30)(he:e.counts.length<2^30) :
  ak Tryz.prog 10 [.dat (.iU p),.dat (.elem a),.dat (.elem e)] (.bool true):=by
 have hla:=Vx p a hp.rules
 have hqa:=O5 p a ha
 refine ak.of Bd.jG (by simp) rfl rfl ?_
 conv=>whnf
 refine ah.pure (S.qL p hp) rfl ?_
 conv=>whnf
 repeat(refine VC.mk (by first|exact id|exact fun h=>⟨h,h⟩|(intro h; rw[h]; rfl)) ?_; conv=>whnf)
 refine ah.gJ (fun _=>S.yt p a hp ha) rfl ?_
 conv=>whnf
 repeat(refine VC.mk (by first|exact id|exact fun h=>⟨h,h⟩|(intro h; rw[h]; rfl)) ?_; conv=>whnf)
 refine ah.gJ (fun _=>S.yt p e hp he) rfl ?_
 conv=>whnf
 repeat(refine VC.mk (by first|exact id|(intro h; rw[h]; rfl)) ?_; conv=>whnf)
 refine⟨fun h1=>?_,fun h1=>?_⟩
 ·conv=>whnf
  refine ah.pure (S.Un) rfl ?_
  conv=>whnf
  exact aj.bool rfl
 have hc:bg p=0/\(iV p).cover=true/\nR p a=false/\nR p e=false:=by
  replace h1:(((bg p !=0|| !(bif bg p !=0 then G7 else iV p).cover)|| !!nR p a)|| !!nR p e)=false:=h1
  simp only[Bool.or_eq_false_iff,Bool.not_not,Bool.not_eq_false'] at h1
  obtain⟨⟨⟨q1,q2⟩,q3⟩,q4⟩:=h1
  rw[q1] at q2
  exact⟨Ce q1,q2,q3,q4⟩
 obtain⟨c1,c2,c3,c4⟩:=hc
 have va:=C9 c1 c2 c3
 have ve:=C9 c1 c2 c4
 have XJ:=aaB ve
 have hcov:Dc p=0:=by unfold Dc; rw[show(bg p !=0)=false by simp[c1],c2]; rfl
 have hall: ∀ r∈p.rules,r.all=[]:=by
  have e1:(iV p).cover=(qM p&& !(p.rules.foldl KL false)):=rfl
  rw[e1,Bool.and_eq_true] at c2
  exact(aaC (show p.rules.foldl KL false=false by simpa using c2.2)).2
 have hpr:prA p e=pG p e:=by unfold prA; rw[hcov,c4]; rfl
 have aeh:=aaA hall va XJ
 have herr:=@IZ p e
 have hfit:=fun x=>@O6 p e x XJ
 have hlen:=@Ee p e
 generalize hX:pG p e=X at hpr aeh herr hfit hlen
 obtain⟨g,M⟩:=X
 have h6:=XJ.valid.states
 have hsm:eF M:=fun x hx=>by have:=Nr (hfit x hx); omega
 replace hlen:M.length<=100:=hlen
 conv=>whnf
 refine ah.pure (S.yu p e hp he) rfl ?_
 rw[hpr]
 conv=>whnf
 refine⟨fun h2=>?_,fun h2=>?_⟩
 ·replace h2:(g !=0)=true:=h2
  have hg:g=4:=by
   rcases herr with h|h
   ·replace h:g=0:=h
    rw[h] at h2; cases h2
   ·exact h
  subst hg
  conv=>whnf
  refine ah.gJ (fun _=>S.Un) rfl ?_
  conv=>whnf
  refine VC.mk id ?_
  conv=>whnf
  exact aj.bool rfl
 replace h2:(g !=0)=false:=h2
 have hg:g=0:=by simpa using h2
 have SA:=S.vP p a hp ha
 rw[va] at SA
 have hA:=aeh hg
 generalize Ac p a=A at hla hqa hA SA
 conv=>whnf
 refine ah.pure SA rfl ?_
 conv=>whnf
 refine aG.objs 3 [9,11,12,3,4,5] (fun i:Nat=>[(14,.int i),(13,.bool ((A.take i).any fun x=>kU e x))]) (fun _=>[(0,KN p),(1,.box 35 3 (.dat (.elem a))),(2,.box 35 3 (.dat (.elem e)))]) (fun i=>i<=A.length) (fun i=>A.length-i) 0 [0,1,2] rfl (by decide) (fun _=>rfl) (Nat.zero_le _) (sR rfl) ⟨⟨rfl,nofun,rfl,rfl,rfl,_,rfl,rfl,rfl,aI.of_eq rfl⟩,⟨rfl,nofun,rfl,rfl,rfl,_,rfl,rfl,rfl,aI.of_eq rfl⟩,⟨rfl,nofun,rfl,rfl,rfl,_,rfl,rfl,rfl,aI.of_eq rfl⟩,trivial⟩ ?_
 conv=>whnf
 refine⟨(sR rfl),rfl,?_⟩
 rintro i hi
 conv=>whnf
 refine⟨fun h3=>?_,fun h3=>?_⟩
 ·have hi':i<A.length:=by simpa using h3
  have hst:=XY (P:=fun x=>kU e x) (d:=default) hi'
  have hsx:=hqa.get i
  conv=>whnf
  repeat(refine VC.mk (by first|exact id|exact fun h=>⟨h,h⟩|(intro h; (repeat' apply And.intro)<;>first|exact h|omega|(simp only[Rw.rP]; omega)|(simp only[Rw.rng]; omega))) ?_; conv=>whnf)
  refine ah.gJ (fun _=>S.sF e (A.getD i default) (by omega) hsx) rfl ?_
  conv=>whnf
  repeat(refine VC.mk (by first|(intro h; rw[h]; rfl)|(simp only[okI] at *; first|omega|(simp_all; done)|(simp_all; omega))) ?_; conv=>whnf)
  refine⟨i+1,[0,1,2],hi',by omega,⟨⟨_,rfl,.eq rfl⟩,⟨_,rfl,.eq (by rw[hst]; rfl)⟩,trivial⟩,(sR rfl),⟨rfl,nofun,rfl,rfl,rfl,_,rfl,rfl,rfl,aI.of_eq rfl⟩,⟨rfl,nofun,rfl,rfl,rfl,_,rfl,rfl,rfl,aI.of_eq rfl⟩,⟨rfl,nofun,rfl,rfl,rfl,_,rfl,rfl,rfl,aI.of_eq rfl⟩,trivial⟩
 ·have hi':i=A.length:=by have:=of_decide_eq_false h3; omega
  subst hi'
  rw[List.take_length]
  conv=>whnf
  refine .mk (by exact fun h=>⟨h,h⟩) ?_
  conv=>whnf
  refine ah.gJ (fun _=>S.iQ M a false (by omega) hsm (by omega)) rfl ?_
  conv=>whnf
  repeat(refine VC.mk (by first|exact id|exact fun h=>⟨h,h⟩) ?_; conv=>whnf)
  refine ah.gJ (fun _=>S.Un) rfl ?_
  conv=>whnf
  refine VC.mk id ?_
  conv=>whnf
  refine aj.bool ?_
  rw[show(M.any fun b=>kU b a)=A.any fun x=>kU e x from hA]
  simp
end Go.Proofs.YtkmldgihhaooaaaGreatDoor
