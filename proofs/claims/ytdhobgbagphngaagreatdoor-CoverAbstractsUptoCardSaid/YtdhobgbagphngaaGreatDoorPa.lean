/-
 All ways to divide a number among places: plain laws. No condition.
-/
import Derived.Test.YtdhobgbagphngaaGreatDoorFa
import Derived.Test.YtdhobgbagphngaaGreatDoorKa
import Derived.Test.YtdhobgbagphngaaGreatDoorRb
namespace Go.Proofs.YtdhobgbagphngaaGreatDoor
open Go.Ab Go.Proofs
set_option maxRecDepth 100000
def kC:Nat->Nat->List (List Int)
 |0,_=>[]
 |1,n=>[[(n:Int)]]
 |k+2,n=>(List.range (n+1)).flatMap fun f=>(kC (k+1) (n-f)).map fun t=>(f:Int)::t
def pG:List Int->List Int->List Int->List Int
 |c,x::xs,k::ks=>pG (dH c x k) xs ks
 |c,_,_=>c
def aal:List Int->List Int->Nat->List (List Int)
 |_,[],_=>[]
 |c,[x],n=>[dH c x n]
 |c,x::y::r,n=>(List.range (n+1)).flatMap fun k:Nat=>aal (dH c x k) (y::r) (n-k)
theorem CY: ∀ {l:List Int} {c:List Int} {n:Nat},aal c l n=(kC l.length n).map (pG c l):=by
 intro l;induction l with
 |nil=>intro c n; rfl
 |cons x r ih =>
  intro c n;cases r with
  |nil=>rfl
  |cons y r =>
   show((List.range (n+1)).flatMap fun k:Nat=>aal (dH c x k) (y::r) (n-k))=((List.range (n+1)).flatMap fun f=>(kC (r.length+1) (n-f)).map fun t=>(f:Int)::t).map (pG c (x::y::r));rw[List.map_flatMap]
   congr 1
   funext k;rw[ih,List.map_map];rfl
theorem div_pos: ∀ {k n:Nat},0<k->kC k n≠[]:=by
 intro k;induction k with
 |zero=>intro n h; exact absurd h (Nat.lt_irrefl _)
 |succ k ih =>
  intro n _;cases k with
  |zero=>simp[kC]
  |succ k =>
   intro h;simp only[kC,List.flatMap_eq_nil_iff,List.map_eq_nil_iff] at h;exact ih (n:=n-0) (Nat.succ_pos _) (h 0 (by simp))
theorem FZ: ∀ {k n:Nat} {s:List Int},s∈kC k n->s.length=k:=by
 intro k;induction k with
 |zero=>intro n s h; cases h
 |succ k ih =>
  intro n s h;cases k with
  |zero=>simp only[kC,List.mem_singleton] at h; subst h; rfl
  |succ k =>
   simp only[kC,List.mem_flatMap,List.mem_map] at h;obtain⟨f,_,t,ht,rfl⟩:=h;rw[List.length_cons,ih ht]
theorem Pm: ∀ {k n:Nat} {s:List Int},s∈kC k n->s.sum=n/\ ∀ x∈s,0<=x:=by
 intro k;induction k with
 |zero=>intro n s h; cases h
 |succ k ih =>
  intro n s h;cases k with
  |zero =>
   simp only[kC,List.mem_singleton] at h; subst h;exact⟨by simp,fun x hx=>by simp at hx; omega⟩
  |succ k =>
   simp only[kC,List.mem_flatMap,List.mem_map,List.mem_range] at h;obtain⟨f,hf,t,ht,rfl⟩:=h;obtain⟨h1,h2⟩:=ih ht;refine⟨by rw[List.sum_cons,h1]; omega,fun x hx=>?_⟩;rcases List.mem_cons.1 hx with rfl|hx
   ·omega
   ·exact h2 x hx
theorem XV: ∀ {k n:Nat},(kC k n).Nodup:=by
 intro k;induction k with
 |zero=>intro n; exact List.nodup_nil
 |succ k ih =>
  intro n;cases k with
  |zero=>simp[kC]
  |succ k =>
   simp only[kC];refine List.pairwise_flatMap.2 ⟨fun f _=>?_,?_⟩
   ·exact List.Pairwise.map _ (fun a b h q=>h (List.cons.inj q).2) ih
   ·refine List.Pairwise.imp ?_ List.nodup_range;intro a b hab s h1 u h2 e;rw[List.mem_map] at h1 h2;obtain⟨t,_,rfl⟩:=h1;obtain⟨v,_,rfl⟩:=h2;have:=(List.cons.inj e).1;exact hab (by omega)
theorem aam{α β:Type}{f:α->List β}: ∀ {l:List α},(∀ x∈l,f x≠[])->l.length<=(l.flatMap f).length:=by
 intro l;induction l with
 |nil=>intro _; exact Nat.zero_le _
 |cons x r ih =>
  intro h;have h1:0<(f x).length:=List.length_pos_iff.2 (h x (by simp));have h2:=ih fun y hy=>h y (by simp[hy])
  rw[List.flatMap_cons,List.length_append,List.length_cons]; omega
def oH(resp:List Int)(t:Nat):List Int:=((List.range resp.length).filter fun x=>resp.getD x 0==(t:Int)).map fun x:Nat=>(x:Int)
def IG(resp need:List Int)(out:List (List Int))(t:Nat):List (List Int):=bif need.getD t 0==0 then out else out.flatMap fun c=>aal c (oH resp t) (need.getD t 0).toNat
def pI(resp need:List Int)(out:List (List Int))(n:Nat):List (List Int):=(List.range n).foldl (IG resp need) out
theorem CZ{resp need:List Int}{out:List (List Int)}{n:Nat}:pI resp need out (n+1)=IG resp need (pI resp need out n) n:=by
 unfold pI;rw[List.range_succ,List.foldl_append]; rfl
theorem aan{resp need:List Int}{out:List (List Int)}{t:Nat}(h:need.getD t 0≠0->oH resp t≠[]):out.length<=(IG resp need out t).length:=by
 unfold IG;cases hb:(need.getD t 0==0) with
 |true=>exact Nat.le_refl _
 |false =>
  have hf:=h (by simpa using hb);refine aam fun c _=>?_
  rw[CY];intro e;rw[List.map_eq_nil_iff] at e;exact div_pos (List.length_pos_iff.2 hf) e
theorem uq(c:List Int)(i d:Int):(dH c i d).length=c.length:=by simp[dH]
theorem zX(c:List Int)(i d:Int)(j:Nat):(dH c i d).getD j 0=if j=i.toNat/\j<c.length then c.getD j 0+d else c.getD j 0:=by
 unfold dH;generalize i.toNat=a;by_cases h:j=a
 ·subst h;by_cases hl:j<c.length
  ·rw[if_pos ⟨rfl,hl⟩]; simp[hl]
  ·rw[if_neg (fun q=>hl q.2),List.set_eq_of_length_le (by omega)]
 ·rw[if_neg (fun q=>h q.1),List.getD_eq_getElem?_getD,List.getElem?_set_ne (Ne.symm h),<- List.getD_eq_getElem?_getD]
theorem XW: ∀ (c:List Int) (i d:Int),i.toNat<c.length->(dH c i d).sum=c.sum+d:=by
 intro c i d;unfold dH;generalize i.toNat=a;induction c generalizing a with
 |nil=>intro h; exact absurd h (Nat.not_lt_zero _)
 |cons x r ih =>
  intro h;cases a with
  |zero=>simp only[List.set_cons_zero,List.sum_cons,List.getD_cons_zero]; omega
  |succ a =>
   have:=ih a (by simpa using h);simp only[List.set_cons_succ,List.sum_cons,List.getD_cons_succ]; omega
theorem Rz: ∀ {xs ks:List Int} {c:List Int},(pG c xs ks).length=c.length:=by
 intro xs;induction xs with
 |nil=>intro ks c; rfl
 |cons x xs ih =>
  intro ks c;cases ks with
  |nil=>rfl
  |cons k ks=>show(pG (dH c x k) xs ks).length=_; rw[ih,uq]
theorem BP: ∀ {xs ks:List Int} {c:List Int} {j:Nat},(∀ x∈xs,x.toNat≠j)->(pG c xs ks).getD j 0=c.getD j 0:=by
 intro xs;induction xs with
 |nil=>intro ks c j _; rfl
 |cons x xs ih =>
  intro ks c j h;cases ks with
  |nil=>rfl
  |cons k ks =>
   show(pG (dH c x k) xs ks).getD j 0=_;rw[ih fun y hy=>h y (by simp[hy]),zX,if_neg fun q=>h x (by simp) q.1.symm]
theorem aao: ∀ {xs ks:List Int} {c:List Int},xs.length=ks.length->(∀ x∈xs,x.toNat<c.length)->(pG c xs ks).sum=c.sum+ks.sum:=by
 intro xs;induction xs with
 |nil =>
  intro ks c h _;cases ks with
  |nil=>show c.sum=c.sum+0; omega
  |cons k ks=>simp at h
 |cons x xs ih =>
  intro ks c h hx;cases ks with
  |nil=>simp at h
  |cons k ks =>
   show(pG (dH c x k) xs ks).sum=_;rw[ih (by simpa using h) fun y hy=>by rw[uq]; exact hx y (by simp[hy]),XW c x k (hx x (by simp)),List.sum_cons]; omega
def Dst(xs:List Int):Prop:=xs.Pairwise fun a b=>a.toNat≠b.toNat
theorem RD: ∀ {xs ks ks':List Int} {c:List Int},Dst xs->(∀ x∈xs,x.toNat<c.length)->xs.length=ks.length->xs.length=ks'.length->pG c xs ks=pG c xs ks'->ks=ks':=by
 intro xs;induction xs with
 |nil =>
  intro ks ks' c _ _ h1 h2 _;rw[List.length_eq_zero_iff.1 h1.symm,List.length_eq_zero_iff.1 h2.symm]
 |cons x xs ih =>
  intro ks ks' c hd hx h1 h2 e;cases ks with
  |nil=>simp at h1
  |cons k ks =>
   cases ks' with
   |nil=>simp at h2
   |cons k' ks' =>
    have hd':=List.pairwise_cons.1 hd;have hne: ∀ y∈xs,y.toNat≠x.toNat:=fun y hy=>Ne.symm (hd'.1 y hy)
    have hl:=hx x (by simp);have e:pG (dH c x k) xs ks=pG (dH c x k') xs ks':=e;have e1:=congrArg (fun l=>l.getD x.toNat 0) e;rw[BP hne,BP hne,zX,zX,if_pos ⟨rfl,hl⟩,if_pos ⟨rfl,hl⟩] at e1;have hk:k=k':=by omega
    subst hk;rw[ih hd'.2 (fun y hy=>by rw[uq]; exact hx y (by simp[hy])) (by simpa using h1) (by simpa using h2) e]
theorem XY{xs ks ks':List Int}{c c':List Int}(hd:Dst xs)(hx: ∀ x∈xs,x.toNat<c.length)(hl:c.length=c'.length)(h1:xs.length=ks.length)(h2:xs.length=ks'.length)(ha: ∀ x∈xs,c.getD x.toNat 0=c'.getD x.toNat 0)(e:pG c xs ks=pG c' xs ks'):c=c'/\ks=ks':=by
 have hc:c=c':=by
  apply List.ext_getElem hl;intro j j1 j2;by_cases hj: ∃ x∈xs,x.toNat=j
  ·obtain⟨x,hx1,rfl⟩:=hj;have:=ha x hx1;simpa [j1,j2] using this
  ·have hj': ∀ x∈xs,x.toNat≠j:=fun x hx1 q=>hj ⟨x,hx1,q⟩
   have:=congrArg (fun l=>l.getD j 0) e;rw[BP hj',BP hj'] at this;simpa [j1,j2] using this
 subst hc;exact⟨rfl,RD hd hx h1 h2 e⟩
theorem NQ{resp:List Int}{t:Nat}:Dst (oH resp t):=by
 unfold Dst oH;rw[List.pairwise_map];refine List.Pairwise.filter _ ?_;exact List.pairwise_lt_range.imp fun h=>by omega
theorem C9{resp:List Int}{t:Nat}{x:Int}:x∈oH resp t↔ ∃ k:Nat,k<resp.length/\resp.getD k 0=(t:Int)/\x=k:=by
 unfold oH;rw[List.mem_map];constructor
 ·rintro⟨k,h,rfl⟩;obtain⟨h1,h2⟩:=List.mem_filter.1 h;exact⟨k,List.mem_range.1 h1,by simpa using h2,rfl⟩
 ·rintro⟨k,h1,h2,rfl⟩;exact⟨k,List.mem_filter.2 ⟨List.mem_range.2 h1,by simpa using h2⟩,rfl⟩
structure acC(resp need b:List Int)(n:Nat)(out:List (List Int)):Prop where
 nd:out.Nodup
 len: ∀ c∈out,c.length=resp.length
 old: ∀ c∈out,∀ j,j<resp.length->(n:Int)<=resp.getD j 0->c.getD j 0=b.getD j 0
 sum: ∀ c∈out,c.sum=b.sum+(need.take n).sum
theorem acC.next{resp need b:List Int}{n:Nat}{out:List (List Int)}(h:acC resp need b n out)(hn:n<need.length)(h0:0<=need.getD n 0):acC resp need b (n+1) (IG resp need out n):=by
 have hs:(need.take (n+1)).sum=(need.take n).sum+need.getD n 0:=by
  rw[List.take_add_one,List.getElem?_eq_getElem hn,List.sum_append,show need.getD n 0=need[n] from by simp[hn]];simp
 unfold IG;cases hb:(need.getD n 0==0) with
 |true =>
  have hz:need.getD n 0=0:=by simpa using hb
  refine⟨h.nd,h.len,fun c hc j hj hr=>h.old c hc j hj (by omega),fun c hc=>?_⟩;rw[hs,hz,h.sum c hc]; omega
 |false =>
  have hin: ∀ c∈out,∀ x∈oH resp n,x.toNat<c.length:=fun c hc x hx=>by
   obtain⟨k,hk,_,rfl⟩:=C9.1 hx;rw[h.len c hc,Int.toNat_natCast]; exact hk
  have key: ∀ c∈out,∀ d∈aal c (oH resp n) (need.getD n 0).toNat,∃ s∈kC (oH resp n).length (need.getD n 0).toNat,d=pG c (oH resp n) s/\(oH resp n).length=s.length:=fun c _ d hd=>by
   rw[CY,List.mem_map] at hd;obtain⟨s,hs,rfl⟩:=hd;exact⟨s,hs,rfl,(FZ hs).symm⟩
  refine⟨?_,fun d hd=>?_,fun d hd j hj hr=>?_,fun d hd=>?_⟩
  ·refine List.pairwise_flatMap.2 ⟨fun c hc=>?_,?_⟩
   ·rw[CY];have hn:(kC (oH resp n).length (need.getD n 0).toNat).Nodup:=XV;rw[List.pairwise_map];refine hn.imp_of_mem fun {s u} hs hu hne e=>hne ?_
    exact RD NQ (hin c hc) (FZ hs).symm (FZ hu).symm e
   ·refine List.Pairwise.imp_of_mem (fun {c c'} hc hc' hne d hd d' hd' e=>?_) h.nd;obtain⟨s,_,rfl,l1⟩:=key c hc d hd;obtain⟨s',_,rfl,l2⟩:=key c' hc' d' hd';refine hne (XY NQ (hin c hc) (by rw[h.len c hc,h.len c' hc']) l1 l2 (fun x hx=>?_) e).1;obtain⟨k,hk,hr,rfl⟩:=C9.1 hx;rw[Int.toNat_natCast,h.old c hc k hk (by omega),h.old c' hc' k hk (by omega)]
  ·obtain⟨c,hc,hd⟩:=List.mem_flatMap.1 hd;obtain⟨s,_,rfl,_⟩:=key c hc d hd;rw[Rz,h.len c hc]
  ·obtain⟨c,hc,hd⟩:=List.mem_flatMap.1 hd;obtain⟨s,_,rfl,_⟩:=key c hc d hd;rw[BP (fun x hx=>?_),h.old c hc j hj (by omega)];obtain⟨k,hk,hr',rfl⟩:=C9.1 hx;rw[Int.toNat_natCast];rintro rfl;omega
  ·obtain⟨c,hc,hd⟩:=List.mem_flatMap.1 hd;obtain⟨s,hs',rfl,l1⟩:=key c hc d hd;rw[aao l1 (hin c hc),h.sum c hc,(Pm hs').1,hs,Int.toNat_of_nonneg h0]; omega
theorem acD{resp need b:List Int}{n:Nat}(hb:b.length=resp.length)(hn:n<=need.length)(h0: ∀ i,0<=need.getD i 0):acC resp need b n (pI resp need [b] n):=by
 induction n with
 |zero =>
  refine⟨by simp[pI],fun c hc=>?_,fun c hc j _ _=>?_,fun c hc=>?_⟩ <;>
  ·have:c=b:=by simpa [pI] using hc
   subst this;first|exact hb|rfl|simp
 |succ n ih =>
  rw[CZ];exact(ih (by omega)).next (by omega) (h0 n)
def qE(p:aH)(r:Rule)(v:Int):List Int :=
 bif decide (0<=r.write)&&r.write !=v then [] else bif decide (r.write<0)&&(decide (0<=r.read)&&r.read !=v) then [] else
 bif decide (0<=r.read) then [r.read] else bif decide (r.write<0) then [v] else(List.range (max 1 p.values.length)).map fun x:Nat=>(x:Int)
def lQ(c:List Int)(i:Int):List Int:=c.set i.toNat (max (c.getD i.toNat 0-1) 0)
def vw(resp need:List Int):Bool:=(List.range need.length).any fun t=>decide (0<need.getD t 0)&& !(PZ resp t)
def DJ(r:Rule)(c:List Int):List (List Int) :=
 let rest:=lQ c r.to
 bif r.kind==1 then(bif zH r rest then [rest] else r.ex.map fun x=>dH rest x 1) else
 bif r.kind==2 then [dH (lQ rest r.Di) r.kG 1] else
 bif r.kind==3 then(bif vw r.response rest then [] else pI r.response rest [List.replicate rest.length 0] rest.length) else [rest]
def yJ(r:Rule)(c:List Int):List (List Int):=(DJ r c).map fun l=>dH l r.fr 1
def BQ(p:aH)(r:Rule)(e:Elem):List Elem:=(qE p r e.value).flatMap fun v=>(yJ r e.counts).map fun c=>⟨v,c⟩
theorem jF{c:List Int}{i:Int}:(lQ c i).length=c.length:=by simp[lQ]
structure Even(n:Nat)(l:List (List Int)):Prop where
 nd:l.Nodup
 len: ∀ c∈l,c.length=n
 sum: ∃ s:Int,∀ c∈l,c.sum=s
theorem acE{p:aH}{r:Rule}{e x:Elem}:x∈BQ p r e↔x.value∈qE p r e.value/\x.counts∈yJ r e.counts:=by
 unfold BQ;rw[List.mem_flatMap];constructor
 ·rintro⟨v,hv,hx⟩;obtain⟨c,hc,rfl⟩:=List.mem_map.1 hx;exact⟨hv,hc⟩
 ·rintro⟨hv,hc⟩;exact⟨_,hv,List.mem_map.2 ⟨_,hc,rfl⟩⟩
theorem acF{p:aH}{r:Rule}{e:Elem}:(BQ p r e).length=(yJ r e.counts).length*(qE p r e.value).length:=by
 unfold BQ;generalize qE p r e.value=l;induction l with
 |nil=>rfl
 |cons v l ih=>rw[List.flatMap_cons,List.length_append,ih,List.length_map,List.length_cons,Nat.mul_succ,Nat.add_comm]
end Go.Proofs.YtdhobgbagphngaaGreatDoor
namespace Go.Proofs.YtdhobgbagphngaaGreatDoor
open Go.Ab Go.Proofs
set_option maxRecDepth 100000
theorem U3{resp need:List Int}(h:vw resp need=false)(h0: ∀ j,0<=need.getD j 0)(t:Nat)(hn:need.getD t 0≠0):oH resp t≠[]:=by
 have ht:t<need.length:=by
  rcases Nat.lt_or_ge t need.length with q|q
  ·exact q
  ·exact absurd (by simp[List.getD_eq_getElem?_getD,List.getElem?_eq_none q]) hn
 unfold vw at h;rw[List.any_eq_false] at h;have:=h t (List.mem_range.2 ht);have hp:0<need.getD t 0:=by have:=h0 t; omega
 rw[decide_eq_true hp,Bool.true_and,Bool.not_eq_true',Bool.not_eq_false] at this;have hm:=abe.1 this;obtain⟨k,hk,he⟩:=List.getElem_of_mem hm;exact List.ne_nil_of_mem (C9.2 ⟨k,hk,by simp[hk,he],rfl⟩)
theorem RF{resp need:List Int}{out:List (List Int)}(h: ∀ t,need.getD t 0≠0->oH resp t≠[]){n:Nat}: ∀ k,(pI resp need out n).length<=(pI resp need out (n+k)).length:=by
 intro k;induction k with
 |zero=>exact Nat.le_refl _
 |succ k ih =>
  rw[<- Nat.add_assoc,CZ];exact Nat.le_trans ih (aan (h _))
theorem acG{resp need:List Int}{out:List (List Int)}{t:Nat}(h:need.getD t 0≠0):(IG resp need out t).length=out.length*(kC (oH resp t).length (need.getD t 0).toNat).length:=by
 unfold IG;rw[show(need.getD t 0==0)=false from by simpa using h];show(out.flatMap _).length=_;induction out with
 |nil=>simp
 |cons c out ih =>
  rw[List.flatMap_cons,List.length_append,ih,CY,List.length_map,List.length_cons,Nat.succ_mul,Nat.add_comm]
theorem aap{k n f:Nat}(hf:f<=n):(kC (k+1) (n-f)).length<=(kC (k+2) n).length:=by
 have hm:f∈List.range (n+1):=List.mem_range.2 (by omega);show _<=((List.range (n+1)).flatMap fun f=>(kC (k+1) (n-f)).map fun t=>(f:Int)::t).length;obtain⟨a,b,e⟩:=List.append_of_mem hm;rw[e,List.flatMap_append,List.flatMap_cons,List.length_append,List.length_append,List.length_map];omega
def rC(k n i:Nat):List (List Int):=(List.range i).flatMap fun f=>(kC (k+1) (n-f)).map fun t=>(f:Int)::t
theorem Hu{k n i:Nat}:rC k n (i+1)=rC k n i++(kC (k+1) (n-i)).map fun t=>(i:Int)::t:=by
 unfold rC;rw[List.range_succ,List.flatMap_append]; simp
theorem RG{k n:Nat}:rC k n (n+1)=kC (k+2) n:=rfl
theorem XZ{k n i:Nat}: ∀ j,(rC k n i).length<=(rC k n (i+j)).length:=by
 intro j;induction j with
 |zero=>exact Nat.le_refl _
 |succ j ih=>rw[<- Nat.add_assoc,Hu,List.length_append]; omega
def xR(p:aH)(r:Rule)(e:Elem):Int×List Elem:=bif decide (100<(BQ p r e).length)||(BQ p r e).any (fun x=> !(x.counts.all Ag)) then(4,[]) else(0,bW (BQ p r e))
def acH(p:aH)(r:Rule)(e:Elem):Int×List Elem :=
 bif (qE p r e.value).length==0 then(0,[]) else bif decide (100<(yJ r e.counts).length)||decide (100<(yJ r e.counts).length*(qE p r e.value).length) then(4,[]) else
 bif (BQ p r e).any (fun x=> !(x.counts.all Ag)) then(4,[]) else(0,bW (BQ p r e))
theorem U4:bW []=[]:=by
 have h: ∀ x,x ∉ bW []:=fun x hx=>by
  unfold bW at hx;rw[Gx] at hx;simp at hx
 exact List.eq_nil_iff_forall_not_mem.2 h
theorem acI{p:aH}{r:Rule}{e:Elem}:acH p r e=xR p r e:=by
 unfold acH xR;rw[acF];cases hv:((qE p r e.value).length==0) with
 |true =>
  have h0:qE p r e.value=[]:=by simpa using hv
  have hz:BQ p r e=[]:=by unfold BQ; rw[h0]; rfl
  rw[hz,h0,U4]; rfl
 |false =>
  have h0:(qE p r e.value).length≠0:=by simpa using hv
  have hm:(yJ r e.counts).length<=(yJ r e.counts).length*(qE p r e.value).length:=Nat.le_mul_of_pos_right _ (Nat.pos_of_ne_zero h0);have e1:(decide (100<(yJ r e.counts).length)||decide (100<(yJ r e.counts).length*(qE p r e.value).length))=decide (100<(yJ r e.counts).length*(qE p r e.value).length):=by
   rw[Bool.eq_iff_iff,Bool.or_eq_true,decide_eq_true_eq,decide_eq_true_eq];omega
  show(bif _||_ then _ else _)=_;rw[e1];cases decide (100<(yJ r e.counts).length*(qE p r e.value).length)<;>rfl
theorem acJ{resp need:List Int}{out:List (List Int)}(h: ∀ t,need.getD t 0≠0->oH resp t≠[]){t n:Nat}(ht:t<=n)(hb:100<(pI resp need out t).length):100<(pI resp need out n).length:=by
 obtain⟨k,rfl⟩:=Nat.exists_eq_add_of_le ht;exact Nat.lt_of_lt_of_le hb (RF h k)
def divO(k n:Nat):Option (List (List Int)):=if(kC k n).length<=100 then some (kC k n) else none
theorem X0{k n f:Nat}(hf:f<=n)(h:divO (k+1) (n-f)=none):divO (k+2) n=none:=by
 unfold divO at h ⊢;have:=aap (k:=k) hf;split at h
 ·cases h
 ·rw[if_neg (by omega)]
theorem aaq{k n i:Nat}(hi:i<=n+1)(h:100<(rC k n i).length):divO (k+2) n=none:=by
 unfold divO;obtain⟨j,hj⟩:=Nat.exists_eq_add_of_le hi;have:=XZ (k:=k) (n:=n) (i:=i) j;rw[<- hj,RG] at this;rw[if_neg (by omega)]
end Go.Proofs.YtdhobgbagphngaaGreatDoor
