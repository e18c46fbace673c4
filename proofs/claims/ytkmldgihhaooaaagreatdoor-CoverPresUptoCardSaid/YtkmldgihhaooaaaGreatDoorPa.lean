/-
 All ways to divide a number among places: plain laws. No condition.
-/
import Derived.Test.YtkmldgihhaooaaaGreatDoorFa
import Derived.Test.YtkmldgihhaooaaaGreatDoorKa
import Derived.Test.YtkmldgihhaooaaaGreatDoorRb
namespace Go.Proofs.YtkmldgihhaooaaaGreatDoor
open Go.Ab Go.Proofs
set_option maxRecDepth 100000
def kK:Nat->Nat->List (List Int)
 |0,_=>[]
 |1,n=>[[(n:Int)]]
 |k+2,n=>(List.range (n+1)).flatMap fun f=>(kK (k+1) (n-f)).map fun t=>(f:Int)::t
def nU:List Int->List Int->List Int->List Int
 |c,x::xs,k::ks=>nU (aT c x k) xs ks
 |c,_,_=>c
def AO:List Int->List Int->Nat->List (List Int)
 |_,[],_=>[]
 |c,[x],n=>[aT c x n]
 |c,x::y::r,n=>(List.range (n+1)).flatMap fun k:Nat=>AO (aT c x k) (y::r) (n-k)
theorem vM: ∀ {l:List Int} {c:List Int} {n:Nat},AO c l n=(kK l.length n).map (nU c l):=by
 intro l
 induction l with
 |nil=>intro c n; rfl
 |cons x r ih =>
  intro c n
  cases r with
  |nil=>rfl
  |cons y r =>
   show((List.range (n+1)).flatMap fun k:Nat=>AO (aT c x k) (y::r) (n-k))=((List.range (n+1)).flatMap fun f=>(kK (r.length+1) (n-f)).map fun t=>(f:Int)::t).map (nU c (x::y::r))
   rw[List.map_flatMap]
   congr 1
   funext k
   rw[ih,List.map_map]
   rfl
theorem div_pos: ∀ {k n:Nat},0<k->kK k n≠[]:=by
 intro k
 induction k with
 |zero=>intro n h; exact absurd h (Nat.lt_irrefl _)
 |succ k ih =>
  intro n _
  cases k with
  |zero=>simp[kK]
  |succ k =>
   intro h
   simp only[kK,List.flatMap_eq_nil_iff,List.map_eq_nil_iff] at h
   exact ih (n:=n-0) (Nat.succ_pos _) (h 0 (by simp))
theorem Gv: ∀ {k n:Nat} {s:List Int},s∈kK k n->s.length=k:=by
 intro k
 induction k with
 |zero=>intro n s h; cases h
 |succ k ih =>
  intro n s h
  cases k with
  |zero=>simp only[kK,List.mem_singleton] at h; subst h; rfl
  |succ k =>
   simp only[kK,List.mem_flatMap,List.mem_map] at h
   obtain⟨f,_,t,ht,rfl⟩:=h
   rw[List.length_cons,ih ht]
theorem Qi: ∀ {k n:Nat} {s:List Int},s∈kK k n->s.sum=n/\ ∀ x∈s,0<=x:=by
 intro k
 induction k with
 |zero=>intro n s h; cases h
 |succ k ih =>
  intro n s h
  cases k with
  |zero =>
   simp only[kK,List.mem_singleton] at h; subst h
   exact⟨by simp,fun x hx=>by simp at hx; omega⟩
  |succ k =>
   simp only[kK,List.mem_flatMap,List.mem_map,List.mem_range] at h
   obtain⟨f,hf,t,ht,rfl⟩:=h
   obtain⟨h1,h2⟩:=ih ht
   refine⟨by rw[List.sum_cons,h1]; omega,fun x hx=>?_⟩
   rcases List.mem_cons.1 hx with rfl|hx
   ·omega
   ·exact h2 x hx
theorem YI: ∀ {k n:Nat},(kK k n).Nodup:=by
 intro k
 induction k with
 |zero=>intro n; exact List.nodup_nil
 |succ k ih =>
  intro n
  cases k with
  |zero=>simp[kK]
  |succ k =>
   simp only[kK]
   refine List.pairwise_flatMap.2 ⟨fun f _=>?_,?_⟩
   ·exact List.Pairwise.map _ (fun a b h q=>h (List.cons.inj q).2) ih
   ·refine List.Pairwise.imp ?_ List.nodup_range
    intro a b hab s h1 u h2 e
    rw[List.mem_map] at h1 h2
    obtain⟨t,_,rfl⟩:=h1
    obtain⟨v,_,rfl⟩:=h2
    have:=(List.cons.inj e).1
    exact hab (by omega)
theorem SG{α β:Type}{f:α->List β}: ∀ {l:List α},(∀ x∈l,f x≠[])->l.length<=(l.flatMap f).length:=by
 intro l
 induction l with
 |nil=>intro _; exact Nat.zero_le _
 |cons x r ih =>
  intro h
  have h1:0<(f x).length:=List.length_pos_iff.2 (h x (by simp))
  have h2:=ih fun y hy=>h y (by simp[hy])
  rw[List.flatMap_cons,List.length_append,List.length_cons]; omega
theorem YJ{α β:Type}{f:α->List β}{m:Nat}{l:List α}(h: ∀ x∈l,f x≠[]):((l.take m).flatMap f).take m=(l.flatMap f).take m:=by
 rcases Nat.lt_or_ge l.length m with hl|hl
 ·rw[List.take_of_length_le (Nat.le_of_lt hl)]
 ·have hlen:=SG (l:=l.take m) fun x hx=>h x (List.mem_of_mem_take hx)
  rw[List.length_take,Nat.min_eq_left hl] at hlen
  have e:l.flatMap f=(l.take m).flatMap f++(l.drop m).flatMap f:=by
   rw[<- List.flatMap_append,List.take_append_drop]
  rw[e,List.take_append_of_le_length hlen]
def pR{α:Type}(m:Nat)(out more:List α):List α:=(out++more).take m
theorem Iy{α:Type}{m:Nat}{o a b:List α}:pR m (pR m o a) b=pR m o (a++b):=by
 unfold pR
 rw[<- List.append_assoc]
 generalize o++a=l
 rcases Nat.lt_or_ge l.length m with h|h
 ·rw[List.take_of_length_le (Nat.le_of_lt h)]
 ·rw[List.take_append_of_le_length (by rw[List.length_take]; omega),List.take_take,Nat.min_self,List.take_append_of_le_length h]
theorem LP(c:List Int)(i d j e:Int):aT (aT c i d) j e=aT (aT c j e) i d:=by
 unfold aT
 generalize i.toNat=a
 generalize j.toNat=b
 by_cases h:a=b
 ·subst h
  rw[List.set_set,List.set_set]
  rcases Nat.lt_or_ge a c.length with hl|hl
  ·have e1: ∀ v:Int,(c.set a v).getD a 0=v:=fun v=>by simp[hl]
   rw[e1,e1]
   congr 1
   omega
  ·rw[List.set_eq_of_length_le hl,List.set_eq_of_length_le hl]
 ·have e1: ∀ v:Int,(c.set a v).getD b 0=c.getD b 0:=fun v=>by rw[List.getD_eq_getElem?_getD,List.getElem?_set_ne h,<- List.getD_eq_getElem?_getD]
  have e2: ∀ v:Int,(c.set b v).getD a 0=c.getD a 0:=fun v=>by rw[List.getD_eq_getElem?_getD,List.getElem?_set_ne (Ne.symm h),<- List.getD_eq_getElem?_getD]
  rw[e1,e2,List.set_comm _ _ h]
theorem YK: ∀ {xs ks:List Int} {c:List Int} {i d:Int},nU (aT c i d) xs ks=aT (nU c xs ks) i d:=by
 intro xs
 induction xs with
 |nil=>intro ks c i d; rfl
 |cons x xs ih =>
  intro ks c i d
  cases ks with
  |nil=>rfl
  |cons k ks =>
   show nU (aT (aT c i d) x k) xs ks=aT (nU (aT c x k) xs ks) i d
   rw[LP,ih]
def iq(resp:List Int)(t:Nat):List Int:=((List.range resp.length).filter fun x=>resp.getD x 0==(t:Int)).map fun x:Nat=>(x:Int)
def xU(resp need:List Int)(out:List (List Int))(t:Nat):List (List Int):=bif need.getD t 0==0 then out else out.flatMap fun c=>AO c (iq resp t) (need.getD t 0).toNat
def lg(resp need:List Int)(out:List (List Int))(n:Nat):List (List Int):=(List.range n).foldl (xU resp need) out
theorem uj{resp need:List Int}{out:List (List Int)}{n:Nat}:lg resp need out (n+1)=xU resp need (lg resp need out n) n:=by
 unfold lg
 rw[List.range_succ,List.foldl_append]; rfl
theorem adI{resp need:List Int}{out:List (List Int)}{t:Nat}{i d:Int}:xU resp need (out.map fun c=>aT c i d) t=(xU resp need out t).map fun c=>aT c i d:=by
 unfold xU
 cases need.getD t 0==0 with
 |true=>rfl
 |false =>
  show(out.map fun c=>aT c i d).flatMap _=(out.flatMap _).map _
  rw[List.flatMap_map,List.map_flatMap]
  congr 1
  funext c
  rw[vM,vM,List.map_map]
  refine List.map_congr_left fun s _=>?_
  exact YK
theorem WQ{resp need:List Int}{out:List (List Int)}{n:Nat}{i d:Int}:lg resp need (out.map fun c=>aT c i d) n=(lg resp need out n).map fun c=>aT c i d:=by
 induction n with
 |zero=>rfl
 |succ n ih=>rw[uj,uj,ih,adI]
theorem adJ{resp need:List Int}{out:List (List Int)}{t m:Nat}(h:need.getD t 0≠0->iq resp t≠[]):(xU resp need (out.take m) t).take m=(xU resp need out t).take m:=by
 unfold xU
 cases hb:(need.getD t 0==0) with
 |true=>show(out.take m).take m=out.take m; rw[List.take_take,Nat.min_self]
 |false =>
  have hf:=h (by simpa using hb)
  refine YJ fun c _=>?_
  rw[vM]
  intro e
  rw[List.map_eq_nil_iff] at e
  exact div_pos (List.length_pos_iff.2 hf) e
theorem abk{resp need:List Int}{out:List (List Int)}{t:Nat}(h:need.getD t 0≠0->iq resp t≠[]):out.length<=(xU resp need out t).length:=by
 unfold xU
 cases hb:(need.getD t 0==0) with
 |true=>exact Nat.le_refl _
 |false =>
  have hf:=h (by simpa using hb)
  refine SG fun c _=>?_
  rw[vM]
  intro e
  rw[List.map_eq_nil_iff] at e
  exact div_pos (List.length_pos_iff.2 hf) e
theorem iQ(c:List Int)(i d:Int):(aT c i d).length=c.length:=by simp[aT]
theorem mO(c:List Int)(i d:Int)(j:Nat):(aT c i d).getD j 0=if j=i.toNat/\j<c.length then c.getD j 0+d else c.getD j 0:=by
 unfold aT
 generalize i.toNat=a
 by_cases h:j=a
 ·subst h
  by_cases hl:j<c.length
  ·rw[if_pos ⟨rfl,hl⟩]; simp[hl]
  ·rw[if_neg (fun q=>hl q.2),List.set_eq_of_length_le (by omega)]
 ·rw[if_neg (fun q=>h q.1),List.getD_eq_getElem?_getD,List.getElem?_set_ne (Ne.symm h),<- List.getD_eq_getElem?_getD]
theorem Iz: ∀ (c:List Int) (i d:Int),i.toNat<c.length->(aT c i d).sum=c.sum+d:=by
 intro c i d
 unfold aT
 generalize i.toNat=a
 induction c generalizing a with
 |nil=>intro h; exact absurd h (Nat.not_lt_zero _)
 |cons x r ih =>
  intro h
  cases a with
  |zero=>simp only[List.set_cons_zero,List.sum_cons,List.getD_cons_zero]; omega
  |succ a =>
   have:=ih a (by simpa using h)
   simp only[List.set_cons_succ,List.sum_cons,List.getD_cons_succ]; omega
theorem SI: ∀ {xs ks:List Int} {c:List Int},(nU c xs ks).length=c.length:=by
 intro xs
 induction xs with
 |nil=>intro ks c; rfl
 |cons x xs ih =>
  intro ks c
  cases ks with
  |nil=>rfl
  |cons k ks=>show(nU (aT c x k) xs ks).length=_; rw[ih,iQ]
theorem Cc: ∀ {xs ks:List Int} {c:List Int} {j:Nat},(∀ x∈xs,x.toNat≠j)->(nU c xs ks).getD j 0=c.getD j 0:=by
 intro xs
 induction xs with
 |nil=>intro ks c j _; rfl
 |cons x xs ih =>
  intro ks c j h
  cases ks with
  |nil=>rfl
  |cons k ks =>
   show(nU (aT c x k) xs ks).getD j 0=_
   rw[ih fun y hy=>h y (by simp[hy]),mO,if_neg fun q=>h x (by simp) q.1.symm]
theorem abl: ∀ {xs ks:List Int} {c:List Int},xs.length=ks.length->(∀ x∈xs,x.toNat<c.length)->(nU c xs ks).sum=c.sum+ks.sum:=by
 intro xs
 induction xs with
 |nil =>
  intro ks c h _
  cases ks with
  |nil=>show c.sum=c.sum+0; omega
  |cons k ks=>simp at h
 |cons x xs ih =>
  intro ks c h hx
  cases ks with
  |nil=>simp at h
  |cons k ks =>
   show(nU (aT c x k) xs ks).sum=_
   rw[ih (by simpa using h) fun y hy=>by rw[iQ]; exact hx y (by simp[hy]),Iz c x k (hx x (by simp)),List.sum_cons]; omega
def Dst(xs:List Int):Prop:=xs.Pairwise fun a b=>a.toNat≠b.toNat
theorem SK: ∀ {xs ks ks':List Int} {c:List Int},Dst xs->(∀ x∈xs,x.toNat<c.length)->xs.length=ks.length->xs.length=ks'.length->nU c xs ks=nU c xs ks'->ks=ks':=by
 intro xs
 induction xs with
 |nil =>
  intro ks ks' c _ _ h1 h2 _
  rw[List.length_eq_zero_iff.1 h1.symm,List.length_eq_zero_iff.1 h2.symm]
 |cons x xs ih =>
  intro ks ks' c hd hx h1 h2 e
  cases ks with
  |nil=>simp at h1
  |cons k ks =>
   cases ks' with
   |nil=>simp at h2
   |cons k' ks' =>
    have hd':=List.pairwise_cons.1 hd
    have hne: ∀ y∈xs,y.toNat≠x.toNat:=fun y hy=>Ne.symm (hd'.1 y hy)
    have hl:=hx x (by simp)
    have e:nU (aT c x k) xs ks=nU (aT c x k') xs ks':=e
    have e1:=congrArg (fun l=>l.getD x.toNat 0) e
    rw[Cc hne,Cc hne,mO,mO,if_pos ⟨rfl,hl⟩,if_pos ⟨rfl,hl⟩] at e1
    have hk:k=k':=by omega
    subst hk
    rw[ih hd'.2 (fun y hy=>by rw[iQ]; exact hx y (by simp[hy])) (by simpa using h1) (by simpa using h2) e]
theorem YL{xs ks ks':List Int}{c c':List Int}(hd:Dst xs)(hx: ∀ x∈xs,x.toNat<c.length)(hl:c.length=c'.length)(h1:xs.length=ks.length)(h2:xs.length=ks'.length)(ha: ∀ x∈xs,c.getD x.toNat 0=c'.getD x.toNat 0)(e:nU c xs ks=nU c' xs ks'):c=c'/\ks=ks':=by
 have hc:c=c':=by
  apply List.ext_getElem hl
  intro j j1 j2
  by_cases hj: ∃ x∈xs,x.toNat=j
  ·obtain⟨x,hx1,rfl⟩:=hj
   have:=ha x hx1
   simpa [j1,j2] using this
  ·have hj': ∀ x∈xs,x.toNat≠j:=fun x hx1 q=>hj ⟨x,hx1,q⟩
   have:=congrArg (fun l=>l.getD j 0) e
   rw[Cc hj',Cc hj'] at this
   simpa [j1,j2] using this
 subst hc
 exact⟨rfl,SK hd hx h1 h2 e⟩
theorem Ox{resp:List Int}{t:Nat}:Dst (iq resp t):=by
 unfold Dst iq
 rw[List.pairwise_map]
 refine List.Pairwise.filter _ ?_
 exact List.pairwise_lt_range.imp fun h=>by omega
theorem wu{resp:List Int}{t:Nat}{x:Int}:x∈iq resp t↔ ∃ k:Nat,k<resp.length/\resp.getD k 0=(t:Int)/\x=k:=by
 unfold iq
 rw[List.mem_map]
 constructor
 ·rintro⟨k,h,rfl⟩
  obtain⟨h1,h2⟩:=List.mem_filter.1 h
  exact⟨k,List.mem_range.1 h1,by simpa using h2,rfl⟩
 ·rintro⟨k,h1,h2,rfl⟩
  exact⟨k,List.mem_filter.2 ⟨List.mem_range.2 h1,by simpa using h2⟩,rfl⟩
structure adK(resp need b:List Int)(n:Nat)(out:List (List Int)):Prop where
 nd:out.Nodup
 len: ∀ c∈out,c.length=resp.length
 old: ∀ c∈out,∀ j,j<resp.length->(n:Int)<=resp.getD j 0->c.getD j 0=b.getD j 0
 sum: ∀ c∈out,c.sum=b.sum+(need.take n).sum
theorem adK.next{resp need b:List Int}{n:Nat}{out:List (List Int)}(h:adK resp need b n out)(hn:n<need.length)(h0:0<=need.getD n 0):adK resp need b (n+1) (xU resp need out n):=by
 have hs:(need.take (n+1)).sum=(need.take n).sum+need.getD n 0:=by
  rw[List.take_add_one,List.getElem?_eq_getElem hn,List.sum_append,show need.getD n 0=need[n] from by simp[hn]]
  simp
 unfold xU
 cases hb:(need.getD n 0==0) with
 |true =>
  have hz:need.getD n 0=0:=by simpa using hb
  refine⟨h.nd,h.len,fun c hc j hj hr=>h.old c hc j hj (by omega),fun c hc=>?_⟩
  rw[hs,hz,h.sum c hc]; omega
 |false =>
  have hin: ∀ c∈out,∀ x∈iq resp n,x.toNat<c.length:=fun c hc x hx=>by
   obtain⟨k,hk,_,rfl⟩:=wu.1 hx
   rw[h.len c hc,Int.toNat_natCast]; exact hk
  have key: ∀ c∈out,∀ d∈AO c (iq resp n) (need.getD n 0).toNat,∃ s∈kK (iq resp n).length (need.getD n 0).toNat,d=nU c (iq resp n) s/\(iq resp n).length=s.length:=fun c _ d hd=>by
   rw[vM,List.mem_map] at hd
   obtain⟨s,hs,rfl⟩:=hd
   exact⟨s,hs,rfl,(Gv hs).symm⟩
  refine⟨?_,fun d hd=>?_,fun d hd j hj hr=>?_,fun d hd=>?_⟩
  ·refine List.pairwise_flatMap.2 ⟨fun c hc=>?_,?_⟩
   ·rw[vM]
    have hn:(kK (iq resp n).length (need.getD n 0).toNat).Nodup:=YI
    rw[List.pairwise_map]
    refine hn.imp_of_mem fun {s u} hs hu hne e=>hne ?_
    exact SK Ox (hin c hc) (Gv hs).symm (Gv hu).symm e
   ·refine List.Pairwise.imp_of_mem (fun {c c'} hc hc' hne d hd d' hd' e=>?_) h.nd
    obtain⟨s,_,rfl,l1⟩:=key c hc d hd
    obtain⟨s',_,rfl,l2⟩:=key c' hc' d' hd'
    refine hne (YL Ox (hin c hc) (by rw[h.len c hc,h.len c' hc']) l1 l2 (fun x hx=>?_) e).1
    obtain⟨k,hk,hr,rfl⟩:=wu.1 hx
    rw[Int.toNat_natCast,h.old c hc k hk (by omega),h.old c' hc' k hk (by omega)]
  ·obtain⟨c,hc,hd⟩:=List.mem_flatMap.1 hd
   obtain⟨s,_,rfl,_⟩:=key c hc d hd
   rw[SI,h.len c hc]
  ·obtain⟨c,hc,hd⟩:=List.mem_flatMap.1 hd
   obtain⟨s,_,rfl,_⟩:=key c hc d hd
   rw[Cc (fun x hx=>?_),h.old c hc j hj (by omega)]
   obtain⟨k,hk,hr',rfl⟩:=wu.1 hx
   rw[Int.toNat_natCast]
   rintro rfl
   omega
  ·obtain⟨c,hc,hd⟩:=List.mem_flatMap.1 hd
   obtain⟨s,hs',rfl,l1⟩:=key c hc d hd
   rw[abl l1 (hin c hc),h.sum c hc,(Qi hs').1,hs,Int.toNat_of_nonneg h0]; omega
theorem WR{resp need b:List Int}{n:Nat}(hb:b.length=resp.length)(hn:n<=need.length)(h0: ∀ i,0<=need.getD i 0):adK resp need b n (lg resp need [b] n):=by
 induction n with
 |zero =>
  refine⟨by simp[lg],fun c hc=>?_,fun c hc j _ _=>?_,fun c hc=>?_⟩ <;>
  ·have:c=b:=by simpa [lg] using hc
   subst this
   first|exact hb|rfl|simp
 |succ n ih =>
  rw[uj]
  exact(ih (by omega)).next (by omega) (h0 n)
def kG(p:aO)(r:Rule)(v:Int):List Int :=
 bif decide (0<=r.write)&&r.write !=v then [] else bif decide (r.write<0)&&(decide (0<=r.read)&&r.read !=v) then [] else
 bif decide (0<=r.read) then [r.read] else bif decide (r.write<0) then [v] else(List.range (max 1 p.values.length)).map fun x:Nat=>(x:Int)
def cZ(c:List Int)(i:Int):List Int:=c.set i.toNat (max (c.getD i.toNat 0-1) 0)
def lS(resp need:List Int):Bool:=(List.range need.length).any fun t=>decide (0<need.getD t 0)&& !(MN resp t)
def zu(r:Rule)(c:List Int):List (List Int) :=
 let rest:=cZ c r.to
 bif r.kind==1 then(bif qA r rest then [rest] else r.ex.map fun x=>aT rest x 1) else
 bif r.kind==2 then [aT (cZ rest r.zI) r.iV 1] else
 bif r.kind==3 then(bif lS r.response rest then [] else lg r.response rest [List.replicate rest.length 0] rest.length) else [rest]
def sZ(r:Rule)(c:List Int):List (List Int):=(zu r c).map fun l=>aT l r.fr 1
def oU(p:aO)(r:Rule)(e:Elem):List Elem:=(kG p r e.value).flatMap fun v=>(sZ r e.counts).map fun c=>⟨v,c⟩
theorem Oy{p:aO}{r:Rule}{v:Int}:(kG p r v).Nodup:=by
 unfold kG
 cases decide (0<=r.write)&&r.write !=v
 ·cases decide (r.write<0)&&(decide (0<=r.read)&&r.read !=v)
  ·cases decide (0<=r.read)
   ·cases decide (r.write<0)
    ·show((List.range _).map _).Nodup
     refine List.Pairwise.map _ (fun a b h q=>h ?_) List.nodup_range
     omega
    ·simp
   ·simp
  ·simp
 ·simp
theorem dN{c:List Int}{i:Int}:(cZ c i).length=c.length:=by simp[cZ]
theorem Ce{c:List Int}{i:Int}(h: ∀ j,0<=c.getD j 0)(j:Nat):0<=(cZ c i).getD j 0:=by
 unfold cZ
 generalize i.toNat=a
 by_cases hj:j=a
 ·subst hj
  by_cases hl:j<c.length
  ·have e:(c.set j (max (c.getD j 0-1) 0)).getD j 0=max (c.getD j 0-1) 0:=by simp[hl]
   rw[e]; omega
  ·rw[List.set_eq_of_length_le (by omega)]; exact h j
 ·rw[List.getD_eq_getElem?_getD,List.getElem?_set_ne (Ne.symm hj),<- List.getD_eq_getElem?_getD]; exact h j
theorem Oz(c:List Int)(i d:Int):aT (aT c i d) i (-d)=c:=by
 unfold aT
 generalize i.toNat=a
 rw[List.set_set]
 by_cases hl:a<c.length
 ·have e:(c.set a (c.getD a 0+d)).getD a 0=c.getD a 0+d:=by simp[hl]
  rw[e]
  apply List.ext_getElem (by simp)
  intro j h1 h2
  rw[List.getElem_set]
  split
  ·rename_i q; subst q; simp[hl]; omega
  ·rfl
 ·rw[List.set_eq_of_length_le (by omega)]
theorem YM{a b:List Int}{i d:Int}(h:aT a i d=aT b i d):a=b:=by
 rw[<- Oz a i d,h,Oz]
structure Even(n:Nat)(l:List (List Int)):Prop where
 nd:l.Nodup
 len: ∀ c∈l,c.length=n
 sum: ∃ s:Int,∀ c∈l,c.sum=s
theorem Even.one{n:Nat}{c:List Int}(h:c.length=n):Even n [c]:=⟨by simp,fun d hd=>by simp at hd; subst hd; exact h,c.sum,fun d hd=>by simp at hd; subst hd; rfl⟩
theorem abm{r:Rule}{c:List Int}(hp:oC c.length r)(hx:r.ex.Nodup)(h0: ∀ j,0<=c.getD j 0):Even c.length (zu r c):=by
 have hl:(cZ c r.to).length=c.length:=dN
 unfold zu
 simp only
 cases hk1:(r.kind==1) with
 |true =>
  cases qA r (cZ c r.to) with
  |true=>exact .one hl
  |false =>
   have key: ∀ x∈r.ex,x.toNat<(cZ c r.to).length/\0<=x:=fun x q=>by have:=hp.exs x q; omega
   refine⟨?_,fun d hd=>?_,(cZ c r.to).sum+1,fun d hd=>?_⟩
   ·show(r.ex.map _).Nodup
    rw[List.Nodup,List.pairwise_map]
    refine List.Pairwise.imp_of_mem (fun {x y} h1 h2 hne e=>hne ?_) hx
    have e1:=congrArg (fun l=>l.getD x.toNat 0) e
    have k1:=key x h1
    have k2:=key y h2
    replace e1:(aT (cZ c r.to) x 1).getD x.toNat 0=(aT (cZ c r.to) y 1).getD x.toNat 0:=e1
    rw[mO,mO,if_pos ⟨rfl,k1.1⟩] at e1
    split at e1
    ·omega
    ·omega
   ·obtain⟨x,_,rfl⟩:=List.mem_map.1 hd
    rw[iQ,hl]
   ·obtain⟨x,hx1,rfl⟩:=List.mem_map.1 hd
    exact Iz _ _ _ (key x hx1).1
 |false =>
  cases hk2:(r.kind==2) with
  |true=>exact .one (by rw[iQ,dN,hl])
  |false =>
   cases hk3:(r.kind==3) with
   |false=>exact .one hl
   |true =>
    cases lS r.response (cZ c r.to) with
    |true =>
     show Even c.length []
     exact⟨List.nodup_nil,(fun d hd=>by cases hd),0,fun d hd=>by cases hd⟩
    |false =>
     have hr:=(hp.rsp (by simpa using hk3)).1
     have:=WR (resp:=r.response) (need:=cZ c r.to) (b:=List.replicate (cZ c r.to).length 0) (by rw[List.length_replicate,hl,hr]) (Nat.le_refl _) (Ce h0)
     exact⟨this.nd,fun d hd=>by rw[this.len d hd,hr],_,this.sum⟩
theorem Even.add{n:Nat}{l:List (List Int)}{i d:Int}(h:Even n l)(hi:i.toNat<n):Even n (l.map fun c=>aT c i d):=by
 obtain⟨s,hs⟩:=h.sum
 refine⟨?_,fun e he=>?_,s+d,fun e he=>?_⟩
 ·rw[List.Nodup,List.pairwise_map]
  exact h.nd.imp fun {a b} hne e=>hne (YM e)
 ·obtain⟨c,hc,rfl⟩:=List.mem_map.1 he
  rw[iQ,h.len c hc]
 ·obtain⟨c,hc,rfl⟩:=List.mem_map.1 he
  rw[Iz _ _ _ (by rw[h.len c hc]; exact hi),hs c hc]
theorem OA{r:Rule}{c:List Int}(hp:oC c.length r)(hx:r.ex.Nodup)(h0: ∀ j,0<=c.getD j 0):Even c.length (sZ r c) :=
 (abm hp hx h0).add (by have:=hp.src; omega)
theorem OB: ∀ {a b:List Int},mW a b=true->a.sum<=b.sum/\(a.sum=b.sum->a=b):=by
 intro a
 induction a with
 |nil =>
  intro b h
  cases b with
  |nil=>exact⟨Int.le_refl _,fun _=>rfl⟩
  |cons y b=>simp[mW] at h
 |cons x a ih =>
  intro b h
  cases b with
  |nil=>simp[mW] at h
  |cons y b =>
   simp only[mW,Bool.and_eq_true,decide_eq_true_eq] at h
   obtain⟨h1,h2⟩:=ih h.2
   rw[List.sum_cons,List.sum_cons]
   refine⟨by omega,fun e=>?_⟩
   have hs:a.sum=b.sum:=by omega
   have hx:x=y:=by omega
   rw[hx,h2 hs]
theorem WS: ∀ {l u:List Elem},l.Nodup->(∀ x∈l,x∈u)->l.length<=u.length:=by
 intro l
 induction l with
 |nil=>intro u _ _; exact Nat.zero_le _
 |cons a l ih =>
  intro u hn hs
  obtain⟨h1,h2⟩:=List.nodup_cons.1 hn
  have ha:=hs a (by simp)
  have:=ih (u:=u.erase a) h2 fun x hx=>(List.mem_erase_of_ne (by rintro rfl; exact h1 hx)).2 (hs x (List.mem_cons_of_mem _ hx))
  rw[List.length_erase_of_mem ha] at this
  have:=List.length_pos_of_mem ha
  rw[List.length_cons]; omega
theorem YN{l:List Elem}(h:SS l):l.Nodup:=by
 unfold SS at h
 refine h.imp fun {a b} hab e=>?_
 have h0:gU a b=0:=by rw[jE]; exact e
 omega
theorem SL{l:List Elem}(ha: ∀ x∈l,∀ y∈l,mF y x=true->y=x):aX l=qL l:=by
 unfold aX
 rw[List.filter_eq_self.2 fun x hx=>?_]
 unfold vF
 rw[Bool.not_eq_true',List.any_eq_false]
 intro y hy h
 obtain⟨h1,h2⟩:=rH.1 h
 exact h2 (ha x hx y hy h1)
theorem SN{l:List Elem}(hn:l.Nodup):(qL l).length=l.length :=
 Nat.le_antisymm (WS (YN (J9 l)) fun x hx=>(vN l x).1 hx) (WS hn fun x hx=>(vN l x).2 hx)
theorem JR{p:aO}{r:Rule}{e x:Elem}:x∈oU p r e↔x.value∈kG p r e.value/\x.counts∈sZ r e.counts:=by
 unfold oU
 rw[List.mem_flatMap]
 constructor
 ·rintro⟨v,hv,hx⟩
  obtain⟨c,hc,rfl⟩:=List.mem_map.1 hx
  exact⟨hv,hc⟩
 ·rintro⟨hv,hc⟩
  exact⟨_,hv,List.mem_map.2 ⟨_,hc,rfl⟩⟩
theorem YO{p:aO}{r:Rule}{e:Elem}(h:(sZ r e.counts).Nodup):(oU p r e).Nodup:=by
 unfold oU
 refine List.pairwise_flatMap.2 ⟨fun v _=>?_,?_⟩
 ·rw[List.pairwise_map]
  exact h.imp fun {a b} hne q=>hne (congrArg Elem.counts q)
 ·refine(Oy (p:=p) (r:=r) (v:=e.value)).imp fun {v u} hne x hx y hy q=>hne ?_
  obtain⟨c,_,rfl⟩:=List.mem_map.1 hx
  obtain⟨d,_,rfl⟩:=List.mem_map.1 hy
  exact congrArg Elem.value q
theorem WT{p:aO}{r:Rule}{e:Elem}(hp:oC e.counts.length r)(hx:r.ex.Nodup)(h0: ∀ j,0<=e.counts.getD j 0):aX (oU p r e)=qL (oU p r e)/\(aX (oU p r e)).length=(oU p r e).length:=by
 have hc:=OA hp hx h0
 have h:aX (oU p r e)=qL (oU p r e):=by
  refine SL fun x hx y hy hle=>?_
  obtain⟨s,hs⟩:=hc.sum
  have e1:=hs _ (JR.1 hx).2
  have e2:=hs _ (JR.1 hy).2
  unfold mF at hle
  rw[Bool.and_eq_true,beq_iff_eq] at hle
  have:=(OB hle.2).2 (by rw[e1,e2])
  cases x; cases y
  simp only at hle this
  rw[hle.1,this]
 exact⟨h,by rw[h,SN (YO hc.nd)]⟩
theorem WU{p:aO}{r:Rule}{e:Elem}:(oU p r e).length=(sZ r e.counts).length*(kG p r e.value).length:=by
 unfold oU
 generalize kG p r e.value=l
 induction l with
 |nil=>rfl
 |cons v l ih=>rw[List.flatMap_cons,List.length_append,ih,List.length_map,List.length_cons,Nat.mul_succ,Nat.add_comm]
theorem LQ(c:List Int)(i:Int)(j:Nat):(cZ c i).getD j 0=if j=i.toNat/\j<c.length then max (c.getD j 0-1) 0 else c.getD j 0:=by
 unfold cZ
 generalize i.toNat=a
 by_cases h:j=a
 ·subst h
  by_cases hl:j<c.length
  ·rw[if_pos ⟨rfl,hl⟩]; simp[hl]
  ·rw[if_neg (fun q=>hl q.2),List.set_eq_of_length_le (by omega)]
 ·rw[if_neg (fun q=>h q.1),List.getD_eq_getElem?_getD,List.getElem?_set_ne (Ne.symm h),<- List.getD_eq_getElem?_getD]
def Ci(r:Rule)(x:Nat):Int:=(if(x:Int)=r.fr then 1 else 0)+(if r.kind=2/\(x:Int)=r.iV then 1 else 0)
def Jf(r:Rule)(x:Nat):Int:=(if(x:Int)=r.to then 1 else 0)+(if r.kind=2/\(x:Int)=r.zI then 1 else 0)
def jT(r:Rule)(c:List Int):List Int:=(List.range c.length).map fun x:Nat=>max (Ci r x) (c.getD x 0-Jf r x+Ci r x)
theorem SQ{l l':List Int}(h:l.length=l'.length)(H: ∀ i,i<l.length->l.getD i 0=l'.getD i 0):l=l':=by
 apply List.ext_getElem h
 intro i h1 h2
 have:=H i h1
 simpa [h1,h2] using this
theorem SV{r:Rule}{c:List Int}{j:Nat}(h:j<c.length):(jT r c).getD j 0=max (Ci r j) (c.getD j 0-Jf r j+Ci r j):=by simp[jT,h]
theorem Cj{r:Rule}{c:List Int}:(jT r c).length=c.length:=by simp[jT]
theorem EJ{r:Rule}{c:List Int}(hp:oC c.length r)(h0: ∀ j,0<=c.getD j 0)(hk:r.kind≠2):jT r c=aT (cZ c r.to) r.fr 1:=by
 refine SQ (by rw[Cj,iQ,dN]) fun j hj=>?_
 rw[Cj] at hj
 have:=h0 j
 have ea:((j:Int)=r.fr)=(j=r.fr.toNat):=propext (by have:=hp.src; omega)
 have eb:((j:Int)=r.to)=(j=r.to.toNat):=propext (by have:=hp.dst; omega)
 rw[SV hj,mO,LQ,dN]
 unfold Ci Jf
 rcases Classical.propComplete (j=r.fr.toNat) with ta|ta<;>rcases Classical.propComplete (j=r.to.toNat) with tb|tb <;>
 ·simp only[ea,eb,ta,tb,eq_true hj,eq_false hk,true_and,false_and,if_true,if_false]
  omega
theorem YP{r:Rule}{c:List Int}(hp:oC c.length r)(h0: ∀ j,0<=c.getD j 0)(hk:r.kind=2):jT r c=aT (aT (cZ (cZ c r.to) r.zI) r.iV 1) r.fr 1:=by
 refine SQ (by rw[Cj,iQ,iQ,dN,dN]) fun j hj=>?_
 rw[Cj] at hj
 have:=h0 j
 have ea:((j:Int)=r.fr)=(j=r.fr.toNat):=propext (by have:=hp.src; omega)
 have eb:((j:Int)=r.to)=(j=r.to.toNat):=propext (by have:=hp.dst; omega)
 have ec:((j:Int)=r.iV)=(j=r.iV.toNat):=propext (by have:=hp.af8; omega)
 have ed:((j:Int)=r.zI)=(j=r.zI.toNat):=propext (by have:=hp.af9; omega)
 rw[SV hj,mO,mO,LQ,LQ,iQ,dN,dN]
 unfold Ci Jf
 rcases Classical.propComplete (j=r.fr.toNat) with ta|ta<;>rcases Classical.propComplete (j=r.to.toNat) with tb|tb<;>rcases Classical.propComplete (j=r.iV.toNat) with tc|tc<;>rcases Classical.propComplete (j=r.zI.toNat) with td|td <;>
 ·simp only[ea,eb,ec,ed,ta,tb,tc,td,eq_true hj,eq_true hk,true_and,false_and,and_self,if_true,if_false]
  omega
def cntF(r:Rule)(c:List Int):List (List Int) :=
 bif r.kind==1 then(bif qA r (cZ c r.to) then [jT r c] else r.ex.map fun x=>aT (jT r c) x 1) else
 bif r.kind==2 then [jT r c] else
 bif r.kind==3 then(bif lS r.response (cZ c r.to) then [] else lg r.response (cZ c r.to) [aT (List.replicate c.length 0) r.fr 1] c.length) else [jT r c]
theorem adL{r:Rule}{c:List Int}(hp:oC c.length r)(h0: ∀ j,0<=c.getD j 0):cntF r c=sZ r c:=by
 unfold cntF sZ zu
 simp only
 cases hk1:(r.kind==1) with
 |true =>
  have hb:=EJ hp h0 (by have:r.kind=1:=(by simpa using hk1); omega)
  rw[hb]
  cases qA r (cZ c r.to) with
  |true=>rfl
  |false =>
   show r.ex.map _=(r.ex.map _).map _
   rw[List.map_map]
   refine List.map_congr_left fun x _=>?_
   exact LP _ _ _ _ _
 |false =>
  cases hk2:(r.kind==2) with
  |true =>
   rw[YP hp h0 (by simpa using hk2)]; rfl
  |false =>
   have hb:=EJ hp h0 (by simpa using hk2)
   cases hk3:(r.kind==3) with
   |false=>rw[hb]; rfl
   |true =>
    cases lS r.response (cZ c r.to) with
    |true=>rfl
    |false =>
     show lg _ _ [aT (List.replicate c.length 0) r.fr 1] c.length=(lg _ _ _ _).map _
     rw[<- WQ,dN]; rfl
theorem Ac{resp need:List Int}(h:lS resp need=false)(h0: ∀ j,0<=need.getD j 0)(t:Nat)(hn:need.getD t 0≠0):iq resp t≠[]:=by
 have ht:t<need.length:=by
  rcases Nat.lt_or_ge t need.length with q|q
  ·exact q
  ·exact absurd (by simp[List.getD_eq_getElem?_getD,List.getElem?_eq_none q]) hn
 unfold lS at h
 rw[List.any_eq_false] at h
 have:=h t (List.mem_range.2 ht)
 have hp:0<need.getD t 0:=by have:=h0 t; omega
 rw[decide_eq_true hp,Bool.true_and,Bool.not_eq_true',Bool.not_eq_false] at this
 have hm:=Jv.1 this
 obtain⟨k,hk,he⟩:=List.getElem_of_mem hm
 exact List.ne_nil_of_mem (wu.2 ⟨k,hk,by simp[hk,he],rfl⟩)
def DF(m:Nat)(resp need:List Int)(out:List (List Int))(n:Nat):List (List Int):=(List.range n).foldl (fun o t=>(xU resp need o t).take m) out
theorem IB{m:Nat}{resp need:List Int}{out:List (List Int)}{n:Nat}:DF m resp need out (n+1)=(xU resp need (DF m resp need out n) n).take m:=by
 unfold DF
 rw[List.range_succ,List.foldl_append]; rfl
theorem JU{m:Nat}{resp need:List Int}{out:List (List Int)}(ho:out.length<=m)(h: ∀ t,need.getD t 0≠0->iq resp t≠[]): ∀ n,DF m resp need out n=(lg resp need out n).take m:=by
 intro n
 induction n with
 |zero=>exact(List.take_of_length_le ho).symm
 |succ n ih=>rw[IB,uj,ih,adJ (h n)]
theorem SX{resp need:List Int}{out:List (List Int)}(h: ∀ t,need.getD t 0≠0->iq resp t≠[]){n:Nat}: ∀ k,(lg resp need out n).length<=(lg resp need out (n+k)).length:=by
 intro k
 induction k with
 |zero=>exact Nat.le_refl _
 |succ k ih =>
  rw[<- Nat.add_assoc,uj]
  exact Nat.le_trans ih (abk (h _))
theorem adM{resp need:List Int}{out:List (List Int)}{t:Nat}(h:need.getD t 0≠0):(xU resp need out t).length=out.length*(kK (iq resp t).length (need.getD t 0).toNat).length:=by
 unfold xU
 rw[show(need.getD t 0==0)=false from by simpa using h]
 show(out.flatMap _).length=_
 induction out with
 |nil=>simp
 |cons c out ih =>
  rw[List.flatMap_cons,List.length_append,ih,vM,List.length_map,List.length_cons,Nat.succ_mul,Nat.add_comm]
theorem abn{k n f:Nat}(hf:f<=n):(kK (k+1) (n-f)).length<=(kK (k+2) n).length:=by
 have hm:f∈List.range (n+1):=List.mem_range.2 (by omega)
 show _<=((List.range (n+1)).flatMap fun f=>(kK (k+1) (n-f)).map fun t=>(f:Int)::t).length
 obtain⟨a,b,e⟩:=List.append_of_mem hm
 rw[e,List.flatMap_append,List.flatMap_cons,List.length_append,List.length_append,List.length_map]
 omega
def rE(k n i:Nat):List (List Int):=(List.range i).flatMap fun f=>(kK (k+1) (n-f)).map fun t=>(f:Int)::t
theorem IC{k n i:Nat}:rE k n (i+1)=rE k n i++(kK (k+1) (n-i)).map fun t=>(i:Int)::t:=by
 unfold rE
 rw[List.range_succ,List.flatMap_append]; simp
theorem SY{k n:Nat}:rE k n (n+1)=kK (k+2) n:=rfl
theorem YQ{k n i:Nat}: ∀ j,(rE k n i).length<=(rE k n (i+j)).length:=by
 intro j
 induction j with
 |zero=>exact Nat.le_refl _
 |succ j ih=>rw[<- Nat.add_assoc,IC,List.length_append]; omega
def pU(p:aO)(r:Rule)(e:Elem):Int×List Elem:=bif decide (100<(oU p r e).length)||(oU p r e).any (fun x=> !(x.counts.all AP)) then(4,[]) else(0,aX (oU p r e))
def Cm(r:Rule)(c:List Int):List (List Int) :=
 bif r.kind==3 then(bif lS r.response (cZ c r.to) then [] else DF 101 r.response (cZ c r.to) [aT (List.replicate c.length 0) r.fr 1] c.length) else cntF r c
theorem WV{r:Rule}{c:List Int}(hp:oC c.length r)(h0: ∀ j,0<=c.getD j 0):Cm r c=sZ r c\/r.kind=3/\Cm r c=(sZ r c).take 101:=by
 have hc:=adL hp h0
 rw[<- hc]
 unfold Cm
 cases hk:(r.kind==3) with
 |false=>exact .inl rfl
 |true =>
  have hk3:r.kind=3:=by simpa using hk
  right
  refine⟨hk3,?_⟩
  unfold cntF
  rw[show(r.kind==1)=false by simp[hk3],show(r.kind==2)=false by simp[hk3],hk]
  cases hs:lS r.response (cZ c r.to) with
  |true=>rfl
  |false=>exact JU (show 1<=101 by decide) (Ac hs (Ce h0)) _
def Nl(p:aO)(r:Rule)(e:Elem):List Elem:=(kG p r e.value).flatMap fun v=>(Cm r e.counts).map fun c=>⟨v,c⟩
def Vx(p:aO)(r:Rule)(e:Elem):Int×List Elem:=bif decide (100<(aX (Nl p r e)).length)||(aX (Nl p r e)).any (jc p) then(4,[]) else(0,aX (Nl p r e))
theorem WW{p:aO}{r:Rule}{e:Elem}(hp:oC e.counts.length r)(hx:r.ex.Nodup)(h0: ∀ j,0<=e.counts.getD j 0){x:Elem}:x∈aX (oU p r e)↔x∈oU p r e:=by
 rw[(WT hp hx h0).1,vN]
theorem S9{vs:List Int}{cs:List (List Int)}{x:Elem}:x∈(vs.flatMap fun v=>cs.map fun c=>(⟨v,c⟩:Elem))↔x.value∈vs/\x.counts∈cs:=by
 rw[List.mem_flatMap]
 constructor
 ·rintro⟨v,hv,hx⟩
  obtain⟨c,hc,rfl⟩:=List.mem_map.1 hx
  exact⟨hv,hc⟩
 ·rintro⟨hv,hc⟩
  exact⟨_,hv,List.mem_map.2 ⟨_,hc,rfl⟩⟩
theorem abo{vs:List Int}{cs:List (List Int)}:(vs.flatMap fun v=>cs.map fun c=>(⟨v,c⟩:Elem)).length=cs.length*vs.length:=by
 induction vs with
 |nil=>rfl
 |cons v l ih=>rw[List.flatMap_cons,List.length_append,ih,List.length_map,List.length_cons,Nat.mul_succ,Nat.add_comm]
theorem abp{n:Nat}{vs:List Int}{cs:List (List Int)}(hv:vs.Nodup)(hc:Even n cs):aX (vs.flatMap fun v=>cs.map fun c=>(⟨v,c⟩:Elem))=qL (vs.flatMap fun v=>cs.map fun c=>(⟨v,c⟩:Elem))/\(aX (vs.flatMap fun v=>cs.map fun c=>(⟨v,c⟩:Elem))).length=cs.length*vs.length:=by
 have hn:(vs.flatMap fun v=>cs.map fun c=>(⟨v,c⟩:Elem)).Nodup:=by
  refine List.pairwise_flatMap.2 ⟨fun v _=>?_,?_⟩
  ·rw[List.pairwise_map]
   exact hc.nd.imp fun {a b} hne q=>hne (congrArg Elem.counts q)
  ·refine hv.imp fun {v u} hne x hx y hy q=>hne ?_
   obtain⟨c,_,rfl⟩:=List.mem_map.1 hx
   obtain⟨d,_,rfl⟩:=List.mem_map.1 hy
   exact congrArg Elem.value q
 have h:aX (vs.flatMap fun v=>cs.map fun c=>(⟨v,c⟩:Elem))=qL (vs.flatMap fun v=>cs.map fun c=>(⟨v,c⟩:Elem)):=by
  refine SL fun x hx y hy hle=>?_
  obtain⟨s,hs⟩:=hc.sum
  have e1:=hs _ (S9.1 hx).2
  have e2:=hs _ (S9.1 hy).2
  unfold mF at hle
  rw[Bool.and_eq_true,beq_iff_eq] at hle
  have:=(OB hle.2).2 (by rw[e1,e2])
  cases x; cases y
  simp only at hle this
  rw[hle.1,this]
 exact⟨h,by rw[h,SN hn,abo]⟩
theorem Even.take{n m:Nat}{l:List (List Int)}(h:Even n l):Even n (l.take m):=by
 obtain⟨s,hs⟩:=h.sum
 exact⟨h.nd.sublist (List.take_sublist m l),fun c hc=>h.len c (List.mem_of_mem_take hc),s,fun c hc=>hs c (List.mem_of_mem_take hc)⟩
theorem adN{p:aO}{r:Rule}{e:Elem}(hp:oC e.counts.length r)(hx:r.ex.Nodup)(h0: ∀ j,0<=e.counts.getD j 0)(hl:e.counts.length=p.states.length)(hv: ∀ v∈kG p r e.value,0<=v/\v<max 1 (p.values.length:Int)):Vx p r e=pU p r e:=by
 have hE:=OA hp hx h0
 have same:Nl p r e=oU p r e->Vx p r e=pU p r e:=fun q=>by
  unfold Vx pU
  rw[q,(WT hp hx h0).2]
  have:(aX (oU p r e)).any (jc p)=(oU p r e).any fun x=> !(x.counts.all AP):=by
   have ag3: ∀ x∈oU p r e,jc p x= !(x.counts.all AP):=fun x hx=>by
    obtain⟨h1,h2⟩:=JR.1 hx
    have hlen:=hE.len _ h2
    have hval:=hv _ h1
    unfold jc
    rw[show((x.counts.length:Int) !=p.states.length)=false by simp; omega,show decide (x.value<0)=false by simp; omega,show decide (x.value>=max 1 (p.values.length:Int))=false by simp only[decide_eq_false_iff_not]; omega]
    simp
   rw[Bool.eq_iff_iff,List.any_eq_true,List.any_eq_true]
   constructor
   ·rintro⟨x,h1,h2⟩
    have h1:=(WW hp hx h0).1 h1
    exact⟨x,h1,by rw[<- ag3 x h1]; exact h2⟩
   ·rintro⟨x,h1,h2⟩
    exact⟨x,(WW hp hx h0).2 h1,by rw[ag3 x h1]; exact h2⟩
  rw[this]
 rcases WV hp h0 with h|⟨_,h⟩
 ·exact same (by unfold Nl oU; rw[h])
 ·rcases Nat.lt_or_ge 101 (sZ r e.counts).length with hc|hc
  ·cases hvs:kG p r e.value with
   |nil=>exact same (by unfold Nl oU; rw[hvs]; rfl)
   |cons v vs =>
    have h1:100<(aX (Nl p r e)).length:=by
     unfold Nl
     rw[h,(abp Oy hE.take).2,hvs,List.length_take,List.length_cons,Nat.mul_succ]; omega
    have h2:100<(oU p r e).length:=by
     rw[WU,hvs,List.length_cons,Nat.mul_succ]; omega
    unfold Vx pU
    rw[decide_eq_true h1,decide_eq_true h2]; rfl
  ·exact same (by unfold Nl oU; rw[h,List.take_of_length_le hc])
def adO(p:aO)(r:Rule)(e:Elem):Int×List Elem :=
 bif (kG p r e.value).length==0 then(0,[]) else bif decide (100<(sZ r e.counts).length)||decide (100<(sZ r e.counts).length*(kG p r e.value).length) then(4,[]) else
 bif (oU p r e).any (fun x=> !(x.counts.all AP)) then(4,[]) else(0,aX (oU p r e))
theorem Vy:aX []=[]:=by
 have h: ∀ x,x ∉ aX []:=fun x hx=>by
  unfold aX at hx
  rw[vN] at hx
  simp at hx
 exact List.eq_nil_iff_forall_not_mem.2 h
theorem adP{p:aO}{r:Rule}{e:Elem}:adO p r e=pU p r e:=by
 unfold adO pU
 rw[WU]
 cases hv:((kG p r e.value).length==0) with
 |true =>
  have h0:kG p r e.value=[]:=by simpa using hv
  have hz:oU p r e=[]:=by unfold oU; rw[h0]; rfl
  rw[hz,h0,Vy]; rfl
 |false =>
  have h0:(kG p r e.value).length≠0:=by simpa using hv
  have hm:(sZ r e.counts).length<=(sZ r e.counts).length*(kG p r e.value).length:=Nat.le_mul_of_pos_right _ (Nat.pos_of_ne_zero h0)
  have e1:(decide (100<(sZ r e.counts).length)||decide (100<(sZ r e.counts).length*(kG p r e.value).length))=decide (100<(sZ r e.counts).length*(kG p r e.value).length):=by
   rw[Bool.eq_iff_iff,Bool.or_eq_true,decide_eq_true_eq,decide_eq_true_eq]
   omega
  show(bif _||_ then _ else _)=_
  rw[e1]
  cases decide (100<(sZ r e.counts).length*(kG p r e.value).length)<;>rfl
theorem adQ{resp need:List Int}{out:List (List Int)}(h: ∀ t,need.getD t 0≠0->iq resp t≠[]){t n:Nat}(ht:t<=n)(hb:100<(lg resp need out t).length):100<(lg resp need out n).length:=by
 obtain⟨k,rfl⟩:=Nat.exists_eq_add_of_le ht
 exact Nat.lt_of_lt_of_le hb (SX h k)
def divO(k n:Nat):Option (List (List Int)):=if(kK k n).length<=100 then some (kK k n) else none
theorem YR{k n f:Nat}(hf:f<=n)(h:divO (k+1) (n-f)=none):divO (k+2) n=none:=by
 unfold divO at h ⊢
 have:=abn (k:=k) hf
 split at h
 ·cases h
 ·rw[if_neg (by omega)]
theorem abq{k n i:Nat}(hi:i<=n+1)(h:100<(rE k n i).length):divO (k+2) n=none:=by
 unfold divO
 obtain⟨j,hj⟩:=Nat.exists_eq_add_of_le hi
 have:=YQ (k:=k) (n:=n) (i:=i) j
 rw[<- hj,SY] at this
 rw[if_neg (by omega)]
end Go.Proofs.YtkmldgihhaooaaaGreatDoor
