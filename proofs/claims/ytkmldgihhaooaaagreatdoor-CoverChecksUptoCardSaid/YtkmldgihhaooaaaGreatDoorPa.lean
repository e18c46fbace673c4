/-
 All ways to divide a number among places: plain laws. No condition.
-/
import Derived.Test.YtkmldgihhaooaaaGreatDoorFa
import Derived.Test.YtkmldgihhaooaaaGreatDoorKa
import Derived.Test.YtkmldgihhaooaaaGreatDoorRb
namespace Go.Proofs.YtkmldgihhaooaaaGreatDoor
open Go.Ab Go.Proofs
set_option maxRecDepth 100000
def kL:Nat->Nat->List (List Int)
 |0,_=>[]
 |1,n=>[[(n:Int)]]
 |k+2,n=>(List.range (n+1)).flatMap fun f=>(kL (k+1) (n-f)).map fun t=>(f:Int)::t
def og:List Int->List Int->List Int->List Int
 |c,x::xs,k::ks=>og (aS c x k) xs ks
 |c,_,_=>c
def Bg:List Int->List Int->Nat->List (List Int)
 |_,[],_=>[]
 |c,[x],n=>[aS c x n]
 |c,x::y::r,n=>(List.range (n+1)).flatMap fun k:Nat=>Bg (aS c x k) (y::r) (n-k)
theorem vV: ∀ {l:List Int} {c:List Int} {n:Nat},Bg c l n=(kL l.length n).map (og c l):=by
 intro l;induction l with
 |nil=>intro c n; rfl
 |cons x r ih =>
  intro c n;cases r with
  |nil=>rfl
  |cons y r =>
   show((List.range (n+1)).flatMap fun k:Nat=>Bg (aS c x k) (y::r) (n-k))=((List.range (n+1)).flatMap fun f=>(kL (r.length+1) (n-f)).map fun t=>(f:Int)::t).map (og c (x::y::r));rw[List.map_flatMap]
   congr 1
   funext k;rw[ih,List.map_map];rfl
theorem div_pos: ∀ {k n:Nat},0<k->kL k n≠[]:=by
 intro k;induction k with
 |zero=>intro n h; exact absurd h (Nat.lt_irrefl _)
 |succ k ih =>
  intro n _;cases k with
  |zero=>simp[kL]
  |succ k =>
   intro h;simp only[kL,List.flatMap_eq_nil_iff,List.map_eq_nil_iff] at h;exact ih (n:=n-0) (Nat.succ_pos _) (h 0 (by simp))
theorem GK: ∀ {k n:Nat} {s:List Int},s∈kL k n->s.length=k:=by
 intro k;induction k with
 |zero=>intro n s h; cases h
 |succ k ih =>
  intro n s h;cases k with
  |zero=>simp only[kL,List.mem_singleton] at h; subst h; rfl
  |succ k =>
   simp only[kL,List.mem_flatMap,List.mem_map] at h;obtain⟨f,_,t,ht,rfl⟩:=h;rw[List.length_cons,ih ht]
theorem Qk: ∀ {k n:Nat} {s:List Int},s∈kL k n->s.sum=n/\ ∀ x∈s,0<=x:=by
 intro k;induction k with
 |zero=>intro n s h; cases h
 |succ k ih =>
  intro n s h;cases k with
  |zero =>
   simp only[kL,List.mem_singleton] at h; subst h;exact⟨by simp,fun x hx=>by simp at hx; omega⟩
  |succ k =>
   simp only[kL,List.mem_flatMap,List.mem_map,List.mem_range] at h;obtain⟨f,hf,t,ht,rfl⟩:=h;obtain⟨h1,h2⟩:=ih ht;refine⟨by rw[List.sum_cons,h1]; omega,fun x hx=>?_⟩;rcases List.mem_cons.1 hx with rfl|hx
   ·omega
   ·exact h2 x hx
theorem YZ: ∀ {k n:Nat},(kL k n).Nodup:=by
 intro k;induction k with
 |zero=>intro n; exact List.nodup_nil
 |succ k ih =>
  intro n;cases k with
  |zero=>simp[kL]
  |succ k =>
   simp only[kL];refine List.pairwise_flatMap.2 ⟨fun f _=>?_,?_⟩
   ·exact List.Pairwise.map _ (fun a b h q=>h (List.cons.inj q).2) ih
   ·refine List.Pairwise.imp ?_ List.nodup_range;intro a b hab s h1 u h2 e;rw[List.mem_map] at h1 h2;obtain⟨t,_,rfl⟩:=h1;obtain⟨v,_,rfl⟩:=h2;have:=(List.cons.inj e).1;exact hab (by omega)
theorem Tj{α β:Type}{f:α->List β}: ∀ {l:List α},(∀ x∈l,f x≠[])->l.length<=(l.flatMap f).length:=by
 intro l;induction l with
 |nil=>intro _; exact Nat.zero_le _
 |cons x r ih =>
  intro h;have h1:0<(f x).length:=List.length_pos_iff.2 (h x (by simp));have h2:=ih fun y hy=>h y (by simp[hy])
  rw[List.flatMap_cons,List.length_append,List.length_cons]; omega
theorem Y0{α β:Type}{f:α->List β}{m:Nat}{l:List α}(h: ∀ x∈l,f x≠[]):((l.take m).flatMap f).take m=(l.flatMap f).take m:=by
 rcases Nat.lt_or_ge l.length m with hl|hl
 ·rw[List.take_of_length_le (Nat.le_of_lt hl)]
 ·have hlen:=Tj (l:=l.take m) fun x hx=>h x (List.mem_of_mem_take hx)
  rw[List.length_take,Nat.min_eq_left hl] at hlen;have e:l.flatMap f=(l.take m).flatMap f++(l.drop m).flatMap f:=by
   rw[<- List.flatMap_append,List.take_append_drop]
  rw[e,List.take_append_of_le_length hlen]
def qF{α:Type}(m:Nat)(out more:List α):List α:=(out++more).take m
theorem IG{α:Type}{m:Nat}{o a b:List α}:qF m (qF m o a) b=qF m o (a++b):=by
 unfold qF;rw[<- List.append_assoc];generalize o++a=l;rcases Nat.lt_or_ge l.length m with h|h
 ·rw[List.take_of_length_le (Nat.le_of_lt h)]
 ·rw[List.take_append_of_le_length (by rw[List.length_take]; omega),List.take_take,Nat.min_self,List.take_append_of_le_length h]
theorem LX(c:List Int)(i d j e:Int):aS (aS c i d) j e=aS (aS c j e) i d:=by
 unfold aS;generalize i.toNat=a;generalize j.toNat=b;by_cases h:a=b
 ·subst h;rw[List.set_set,List.set_set];rcases Nat.lt_or_ge a c.length with hl|hl
  ·have e1: ∀ v:Int,(c.set a v).getD a 0=v:=fun v=>by simp[hl]
   rw[e1,e1]
   congr 1
   omega
  ·rw[List.set_eq_of_length_le hl,List.set_eq_of_length_le hl]
 ·have e1: ∀ v:Int,(c.set a v).getD b 0=c.getD b 0:=fun v=>by rw[List.getD_eq_getElem?_getD,List.getElem?_set_ne h,<- List.getD_eq_getElem?_getD]
  have e2: ∀ v:Int,(c.set b v).getD a 0=c.getD a 0:=fun v=>by rw[List.getD_eq_getElem?_getD,List.getElem?_set_ne (Ne.symm h),<- List.getD_eq_getElem?_getD]
  rw[e1,e2,List.set_comm _ _ h]
theorem Y3: ∀ {xs ks:List Int} {c:List Int} {i d:Int},og (aS c i d) xs ks=aS (og c xs ks) i d:=by
 intro xs;induction xs with
 |nil=>intro ks c i d; rfl
 |cons x xs ih =>
  intro ks c i d;cases ks with
  |nil=>rfl
  |cons k ks =>
   show og (aS (aS c i d) x k) xs ks=aS (og (aS c x k) xs ks) i d;rw[LX,ih]
def gZ(resp:List Int)(t:Nat):List Int:=((List.range resp.length).filter fun x=>resp.getD x 0==(t:Int)).map fun x:Nat=>(x:Int)
def yu(resp need:List Int)(out:List (List Int))(t:Nat):List (List Int):=bif need.getD t 0==0 then out else out.flatMap fun c=>Bg c (gZ resp t) (need.getD t 0).toNat
def lq(resp need:List Int)(out:List (List Int))(n:Nat):List (List Int):=(List.range n).foldl (yu resp need) out
theorem uw{resp need:List Int}{out:List (List Int)}{n:Nat}:lq resp need out (n+1)=yu resp need (lq resp need out n) n:=by
 unfold lq;rw[List.range_succ,List.foldl_append]; rfl
theorem adY{resp need:List Int}{out:List (List Int)}{t:Nat}{i d:Int}:yu resp need (out.map fun c=>aS c i d) t=(yu resp need out t).map fun c=>aS c i d:=by
 unfold yu;cases need.getD t 0==0 with
 |true=>rfl
 |false =>
  show(out.map fun c=>aS c i d).flatMap _=(out.flatMap _).map _;rw[List.flatMap_map,List.map_flatMap]
  congr 1
  funext c;rw[vV,vV,List.map_map];refine List.map_congr_left fun s _=>?_
  exact Y3
theorem Xl{resp need:List Int}{out:List (List Int)}{n:Nat}{i d:Int}:lq resp need (out.map fun c=>aS c i d) n=(lq resp need out n).map fun c=>aS c i d:=by
 induction n with
 |zero=>rfl
 |succ n ih=>rw[uw,uw,ih,adY]
theorem ad1{resp need:List Int}{out:List (List Int)}{t m:Nat}(h:need.getD t 0≠0->gZ resp t≠[]):(yu resp need (out.take m) t).take m=(yu resp need out t).take m:=by
 unfold yu;cases hb:(need.getD t 0==0) with
 |true=>show(out.take m).take m=out.take m; rw[List.take_take,Nat.min_self]
 |false =>
  have hf:=h (by simpa using hb);refine Y0 fun c _=>?_
  rw[vV];intro e;rw[List.map_eq_nil_iff] at e;exact div_pos (List.length_pos_iff.2 hf) e
theorem abA{resp need:List Int}{out:List (List Int)}{t:Nat}(h:need.getD t 0≠0->gZ resp t≠[]):out.length<=(yu resp need out t).length:=by
 unfold yu;cases hb:(need.getD t 0==0) with
 |true=>exact Nat.le_refl _
 |false =>
  have hf:=h (by simpa using hb);refine Tj fun c _=>?_
  rw[vV];intro e;rw[List.map_eq_nil_iff] at e;exact div_pos (List.length_pos_iff.2 hf) e
theorem iR(c:List Int)(i d:Int):(aS c i d).length=c.length:=by simp[aS]
theorem mZ(c:List Int)(i d:Int)(j:Nat):(aS c i d).getD j 0=if j=i.toNat/\j<c.length then c.getD j 0+d else c.getD j 0:=by
 unfold aS;generalize i.toNat=a;by_cases h:j=a
 ·subst h;by_cases hl:j<c.length
  ·rw[if_pos ⟨rfl,hl⟩]; simp[hl]
  ·rw[if_neg (fun q=>hl q.2),List.set_eq_of_length_le (by omega)]
 ·rw[if_neg (fun q=>h q.1),List.getD_eq_getElem?_getD,List.getElem?_set_ne (Ne.symm h),<- List.getD_eq_getElem?_getD]
theorem II: ∀ (c:List Int) (i d:Int),i.toNat<c.length->(aS c i d).sum=c.sum+d:=by
 intro c i d;unfold aS;generalize i.toNat=a;induction c generalizing a with
 |nil=>intro h; exact absurd h (Nat.not_lt_zero _)
 |cons x r ih =>
  intro h;cases a with
  |zero=>simp only[List.set_cons_zero,List.sum_cons,List.getD_cons_zero]; omega
  |succ a =>
   have:=ih a (by simpa using h);simp only[List.set_cons_succ,List.sum_cons,List.getD_cons_succ]; omega
theorem Tm: ∀ {xs ks:List Int} {c:List Int},(og c xs ks).length=c.length:=by
 intro xs;induction xs with
 |nil=>intro ks c; rfl
 |cons x xs ih =>
  intro ks c;cases ks with
  |nil=>rfl
  |cons k ks=>show(og (aS c x k) xs ks).length=_; rw[ih,iR]
theorem CW: ∀ {xs ks:List Int} {c:List Int} {j:Nat},(∀ x∈xs,x.toNat≠j)->(og c xs ks).getD j 0=c.getD j 0:=by
 intro xs;induction xs with
 |nil=>intro ks c j _; rfl
 |cons x xs ih =>
  intro ks c j h;cases ks with
  |nil=>rfl
  |cons k ks =>
   show(og (aS c x k) xs ks).getD j 0=_;rw[ih fun y hy=>h y (by simp[hy]),mZ,if_neg fun q=>h x (by simp) q.1.symm]
theorem abB: ∀ {xs ks:List Int} {c:List Int},xs.length=ks.length->(∀ x∈xs,x.toNat<c.length)->(og c xs ks).sum=c.sum+ks.sum:=by
 intro xs;induction xs with
 |nil =>
  intro ks c h _;cases ks with
  |nil=>show c.sum=c.sum+0; omega
  |cons k ks=>simp at h
 |cons x xs ih =>
  intro ks c h hx;cases ks with
  |nil=>simp at h
  |cons k ks =>
   show(og (aS c x k) xs ks).sum=_;rw[ih (by simpa using h) fun y hy=>by rw[iR]; exact hx y (by simp[hy]),II c x k (hx x (by simp)),List.sum_cons]; omega
def Dst(xs:List Int):Prop:=xs.Pairwise fun a b=>a.toNat≠b.toNat
theorem Tn: ∀ {xs ks ks':List Int} {c:List Int},Dst xs->(∀ x∈xs,x.toNat<c.length)->xs.length=ks.length->xs.length=ks'.length->og c xs ks=og c xs ks'->ks=ks':=by
 intro xs;induction xs with
 |nil =>
  intro ks ks' c _ _ h1 h2 _;rw[List.length_eq_zero_iff.1 h1.symm,List.length_eq_zero_iff.1 h2.symm]
 |cons x xs ih =>
  intro ks ks' c hd hx h1 h2 e;cases ks with
  |nil=>simp at h1
  |cons k ks =>
   cases ks' with
   |nil=>simp at h2
   |cons k' ks' =>
    have hd':=List.pairwise_cons.1 hd;have hne: ∀ y∈xs,y.toNat≠x.toNat:=fun y hy=>Ne.symm (hd'.1 y hy)
    have hl:=hx x (by simp);have e:og (aS c x k) xs ks=og (aS c x k') xs ks':=e;have e1:=congrArg (fun l=>l.getD x.toNat 0) e;rw[CW hne,CW hne,mZ,mZ,if_pos ⟨rfl,hl⟩,if_pos ⟨rfl,hl⟩] at e1;have hk:k=k':=by omega
    subst hk;rw[ih hd'.2 (fun y hy=>by rw[iR]; exact hx y (by simp[hy])) (by simpa using h1) (by simpa using h2) e]
theorem Y4{xs ks ks':List Int}{c c':List Int}(hd:Dst xs)(hx: ∀ x∈xs,x.toNat<c.length)(hl:c.length=c'.length)(h1:xs.length=ks.length)(h2:xs.length=ks'.length)(ha: ∀ x∈xs,c.getD x.toNat 0=c'.getD x.toNat 0)(e:og c xs ks=og c' xs ks'):c=c'/\ks=ks':=by
 have hc:c=c':=by
  apply List.ext_getElem hl;intro j j1 j2;by_cases hj: ∃ x∈xs,x.toNat=j
  ·obtain⟨x,hx1,rfl⟩:=hj;have:=ha x hx1;simpa [j1,j2] using this
  ·have hj': ∀ x∈xs,x.toNat≠j:=fun x hx1 q=>hj ⟨x,hx1,q⟩
   have:=congrArg (fun l=>l.getD j 0) e;rw[CW hj',CW hj'] at this;simpa [j1,j2] using this
 subst hc;exact⟨rfl,Tn hd hx h1 h2 e⟩
theorem OE{resp:List Int}{t:Nat}:Dst (gZ resp t):=by
 unfold Dst gZ;rw[List.pairwise_map];refine List.Pairwise.filter _ ?_;exact List.pairwise_lt_range.imp fun h=>by omega
theorem wI{resp:List Int}{t:Nat}{x:Int}:x∈gZ resp t↔ ∃ k:Nat,k<resp.length/\resp.getD k 0=(t:Int)/\x=k:=by
 unfold gZ;rw[List.mem_map];constructor
 ·rintro⟨k,h,rfl⟩;obtain⟨h1,h2⟩:=List.mem_filter.1 h;exact⟨k,List.mem_range.1 h1,by simpa using h2,rfl⟩
 ·rintro⟨k,h1,h2,rfl⟩;exact⟨k,List.mem_filter.2 ⟨List.mem_range.2 h1,by simpa using h2⟩,rfl⟩
structure ad2(resp need b:List Int)(n:Nat)(out:List (List Int)):Prop where
 nd:out.Nodup
 len: ∀ c∈out,c.length=resp.length
 old: ∀ c∈out,∀ j,j<resp.length->(n:Int)<=resp.getD j 0->c.getD j 0=b.getD j 0
 sum: ∀ c∈out,c.sum=b.sum+(need.take n).sum
theorem ad2.next{resp need b:List Int}{n:Nat}{out:List (List Int)}(h:ad2 resp need b n out)(hn:n<need.length)(h0:0<=need.getD n 0):ad2 resp need b (n+1) (yu resp need out n):=by
 have hs:(need.take (n+1)).sum=(need.take n).sum+need.getD n 0:=by
  rw[List.take_add_one,List.getElem?_eq_getElem hn,List.sum_append,show need.getD n 0=need[n] from by simp[hn]];simp
 unfold yu;cases hb:(need.getD n 0==0) with
 |true =>
  have hz:need.getD n 0=0:=by simpa using hb
  refine⟨h.nd,h.len,fun c hc j hj hr=>h.old c hc j hj (by omega),fun c hc=>?_⟩;rw[hs,hz,h.sum c hc]; omega
 |false =>
  have hin: ∀ c∈out,∀ x∈gZ resp n,x.toNat<c.length:=fun c hc x hx=>by
   obtain⟨k,hk,_,rfl⟩:=wI.1 hx;rw[h.len c hc,Int.toNat_natCast]; exact hk
  have key: ∀ c∈out,∀ d∈Bg c (gZ resp n) (need.getD n 0).toNat,∃ s∈kL (gZ resp n).length (need.getD n 0).toNat,d=og c (gZ resp n) s/\(gZ resp n).length=s.length:=fun c _ d hd=>by
   rw[vV,List.mem_map] at hd;obtain⟨s,hs,rfl⟩:=hd;exact⟨s,hs,rfl,(GK hs).symm⟩
  refine⟨?_,fun d hd=>?_,fun d hd j hj hr=>?_,fun d hd=>?_⟩
  ·refine List.pairwise_flatMap.2 ⟨fun c hc=>?_,?_⟩
   ·rw[vV];have hn:(kL (gZ resp n).length (need.getD n 0).toNat).Nodup:=YZ;rw[List.pairwise_map];refine hn.imp_of_mem fun {s u} hs hu hne e=>hne ?_
    exact Tn OE (hin c hc) (GK hs).symm (GK hu).symm e
   ·refine List.Pairwise.imp_of_mem (fun {c c'} hc hc' hne d hd d' hd' e=>?_) h.nd;obtain⟨s,_,rfl,l1⟩:=key c hc d hd;obtain⟨s',_,rfl,l2⟩:=key c' hc' d' hd';refine hne (Y4 OE (hin c hc) (by rw[h.len c hc,h.len c' hc']) l1 l2 (fun x hx=>?_) e).1;obtain⟨k,hk,hr,rfl⟩:=wI.1 hx;rw[Int.toNat_natCast,h.old c hc k hk (by omega),h.old c' hc' k hk (by omega)]
  ·obtain⟨c,hc,hd⟩:=List.mem_flatMap.1 hd;obtain⟨s,_,rfl,_⟩:=key c hc d hd;rw[Tm,h.len c hc]
  ·obtain⟨c,hc,hd⟩:=List.mem_flatMap.1 hd;obtain⟨s,_,rfl,_⟩:=key c hc d hd;rw[CW (fun x hx=>?_),h.old c hc j hj (by omega)];obtain⟨k,hk,hr',rfl⟩:=wI.1 hx;rw[Int.toNat_natCast];rintro rfl;omega
  ·obtain⟨c,hc,hd⟩:=List.mem_flatMap.1 hd;obtain⟨s,hs',rfl,l1⟩:=key c hc d hd;rw[abB l1 (hin c hc),h.sum c hc,(Qk hs').1,hs,Int.toNat_of_nonneg h0]; omega
theorem Xm{resp need b:List Int}{n:Nat}(hb:b.length=resp.length)(hn:n<=need.length)(h0: ∀ i,0<=need.getD i 0):ad2 resp need b n (lq resp need [b] n):=by
 induction n with
 |zero =>
  refine⟨by simp[lq],fun c hc=>?_,fun c hc j _ _=>?_,fun c hc=>?_⟩ <;>
  ·have:c=b:=by simpa [lq] using hc
   subst this;first|exact hb|rfl|simp
 |succ n ih =>
  rw[uw];exact(ih (by omega)).next (by omega) (h0 n)
def kK(p:aJ)(r:Rule)(v:Int):List Int :=
 bif decide (0<=r.write)&&r.write !=v then [] else bif decide (r.write<0)&&(decide (0<=r.read)&&r.read !=v) then [] else
 bif decide (0<=r.read) then [r.read] else bif decide (r.write<0) then [v] else(List.range (max 1 p.values.length)).map fun x:Nat=>(x:Int)
def cu(c:List Int)(i:Int):List Int:=c.set i.toNat (max (c.getD i.toNat 0-1) 0)
def lX(resp need:List Int):Bool:=(List.range need.length).any fun t=>decide (0<need.getD t 0)&& !(Ji resp t)
def zF(r:Rule)(c:List Int):List (List Int) :=
 let rest:=cu c r.to
 bif r.kind==1 then(bif qR r rest then [rest] else r.ex.map fun x=>aS rest x 1) else
 bif r.kind==2 then [aS (cu rest r.zQ) r.je 1] else
 bif r.kind==3 then(bif lX r.response rest then [] else lq r.response rest [List.replicate rest.length 0] rest.length) else [rest]
def tK(r:Rule)(c:List Int):List (List Int):=(zF r c).map fun l=>aS l r.fr 1
def pq(p:aJ)(r:Rule)(e:Elem):List Elem:=(kK p r e.value).flatMap fun v=>(tK r e.counts).map fun c=>⟨v,c⟩
theorem OG{p:aJ}{r:Rule}{v:Int}:(kK p r v).Nodup:=by
 unfold kK;cases decide (0<=r.write)&&r.write !=v
 ·cases decide (r.write<0)&&(decide (0<=r.read)&&r.read !=v)
  ·cases decide (0<=r.read)
   ·cases decide (r.write<0)
    ·show((List.range _).map _).Nodup;refine List.Pairwise.map _ (fun a b h q=>h ?_) List.nodup_range;omega
    ·simp
   ·simp
  ·simp
 ·simp
theorem dL{c:List Int}{i:Int}:(cu c i).length=c.length:=by simp[cu]
theorem CX{c:List Int}{i:Int}(h: ∀ j,0<=c.getD j 0)(j:Nat):0<=(cu c i).getD j 0:=by
 unfold cu;generalize i.toNat=a;by_cases hj:j=a
 ·subst hj;by_cases hl:j<c.length
  ·have e:(c.set j (max (c.getD j 0-1) 0)).getD j 0=max (c.getD j 0-1) 0:=by simp[hl]
   rw[e]; omega
  ·rw[List.set_eq_of_length_le (by omega)]; exact h j
 ·rw[List.getD_eq_getElem?_getD,List.getElem?_set_ne (Ne.symm hj),<- List.getD_eq_getElem?_getD]; exact h j
theorem OH(c:List Int)(i d:Int):aS (aS c i d) i (-d)=c:=by
 unfold aS;generalize i.toNat=a;rw[List.set_set];by_cases hl:a<c.length
 ·have e:(c.set a (c.getD a 0+d)).getD a 0=c.getD a 0+d:=by simp[hl]
  rw[e];apply List.ext_getElem (by simp);intro j h1 h2;rw[List.getElem_set];split
  ·rename_i q; subst q; simp[hl]; omega
  ·rfl
 ·rw[List.set_eq_of_length_le (by omega)]
theorem Y5{a b:List Int}{i d:Int}(h:aS a i d=aS b i d):a=b:=by
 rw[<- OH a i d,h,OH]
structure Even(n:Nat)(l:List (List Int)):Prop where
 nd:l.Nodup
 len: ∀ c∈l,c.length=n
 sum: ∃ s:Int,∀ c∈l,c.sum=s
theorem Even.one{n:Nat}{c:List Int}(h:c.length=n):Even n [c]:=⟨by simp,fun d hd=>by simp at hd; subst hd; exact h,c.sum,fun d hd=>by simp at hd; subst hd; rfl⟩
theorem abC{r:Rule}{c:List Int}(hp:oN c.length r)(hx:r.ex.Nodup)(h0: ∀ j,0<=c.getD j 0):Even c.length (zF r c):=by
 have hl:(cu c r.to).length=c.length:=dL;unfold zF;simp only;cases hk1:(r.kind==1) with
 |true =>
  cases qR r (cu c r.to) with
  |true=>exact .one hl
  |false =>
   have key: ∀ x∈r.ex,x.toNat<(cu c r.to).length/\0<=x:=fun x q=>by have:=hp.exs x q; omega
   refine⟨?_,fun d hd=>?_,(cu c r.to).sum+1,fun d hd=>?_⟩
   ·show(r.ex.map _).Nodup;rw[List.Nodup,List.pairwise_map];refine List.Pairwise.imp_of_mem (fun {x y} h1 h2 hne e=>hne ?_) hx;have e1:=congrArg (fun l=>l.getD x.toNat 0) e;have k1:=key x h1;have k2:=key y h2;replace e1:(aS (cu c r.to) x 1).getD x.toNat 0=(aS (cu c r.to) y 1).getD x.toNat 0:=e1;rw[mZ,mZ,if_pos ⟨rfl,k1.1⟩] at e1;split at e1
    ·omega
    ·omega
   ·obtain⟨x,_,rfl⟩:=List.mem_map.1 hd;rw[iR,hl]
   ·obtain⟨x,hx1,rfl⟩:=List.mem_map.1 hd;exact II _ _ _ (key x hx1).1
 |false =>
  cases hk2:(r.kind==2) with
  |true=>exact .one (by rw[iR,dL,hl])
  |false =>
   cases hk3:(r.kind==3) with
   |false=>exact .one hl
   |true =>
    cases lX r.response (cu c r.to) with
    |true =>
     show Even c.length [];exact⟨List.nodup_nil,(fun d hd=>by cases hd),0,fun d hd=>by cases hd⟩
    |false =>
     have hr:=(hp.rsp (by simpa using hk3)).1;have:=Xm (resp:=r.response) (need:=cu c r.to) (b:=List.replicate (cu c r.to).length 0) (by rw[List.length_replicate,hl,hr]) (Nat.le_refl _) (CX h0);exact⟨this.nd,fun d hd=>by rw[this.len d hd,hr],_,this.sum⟩
theorem Even.add{n:Nat}{l:List (List Int)}{i d:Int}(h:Even n l)(hi:i.toNat<n):Even n (l.map fun c=>aS c i d):=by
 obtain⟨s,hs⟩:=h.sum;refine⟨?_,fun e he=>?_,s+d,fun e he=>?_⟩
 ·rw[List.Nodup,List.pairwise_map];exact h.nd.imp fun {a b} hne e=>hne (Y5 e)
 ·obtain⟨c,hc,rfl⟩:=List.mem_map.1 he;rw[iR,h.len c hc]
 ·obtain⟨c,hc,rfl⟩:=List.mem_map.1 he;rw[II _ _ _ (by rw[h.len c hc]; exact hi),hs c hc]
theorem OI{r:Rule}{c:List Int}(hp:oN c.length r)(hx:r.ex.Nodup)(h0: ∀ j,0<=c.getD j 0):Even c.length (tK r c) :=
 (abC hp hx h0).add (by have:=hp.src; omega)
theorem OJ: ∀ {a b:List Int},ny a b=true->a.sum<=b.sum/\(a.sum=b.sum->a=b):=by
 intro a;induction a with
 |nil =>
  intro b h;cases b with
  |nil=>exact⟨Int.le_refl _,fun _=>rfl⟩
  |cons y b=>simp[ny] at h
 |cons x a ih =>
  intro b h;cases b with
  |nil=>simp[ny] at h
  |cons y b =>
   simp only[ny,Bool.and_eq_true,decide_eq_true_eq] at h;obtain⟨h1,h2⟩:=ih h.2;rw[List.sum_cons,List.sum_cons];refine⟨by omega,fun e=>?_⟩;have hs:a.sum=b.sum:=by omega
   have hx:x=y:=by omega
   rw[hx,h2 hs]
theorem Xn: ∀ {l u:List Elem},l.Nodup->(∀ x∈l,x∈u)->l.length<=u.length:=by
 intro l;induction l with
 |nil=>intro u _ _; exact Nat.zero_le _
 |cons a l ih =>
  intro u hn hs;obtain⟨h1,h2⟩:=List.nodup_cons.1 hn;have ha:=hs a (by simp);have:=ih (u:=u.erase a) h2 fun x hx=>(List.mem_erase_of_ne (by rintro rfl; exact h1 hx)).2 (hs x (List.mem_cons_of_mem _ hx))
  rw[List.length_erase_of_mem ha] at this;have:=List.length_pos_of_mem ha;rw[List.length_cons]; omega
theorem Y6{l:List Elem}(h:SS l):l.Nodup:=by
 unfold SS at h;refine h.imp fun {a b} hab e=>?_
 have h0:gU a b=0:=by rw[jI]; exact e
 omega
theorem Tq{l:List Elem}(ha: ∀ x∈l,∀ y∈l,mM y x=true->y=x):aY l=rC l:=by
 unfold aY;rw[List.filter_eq_self.2 fun x hx=>?_];unfold vJ;rw[Bool.not_eq_true',List.any_eq_false];intro y hy h;obtain⟨h1,h2⟩:=rX.1 h;exact h2 (ha x hx y hy h1)
theorem Tt{l:List Elem}(hn:l.Nodup):(rC l).length=l.length :=
 Nat.le_antisymm (Xn (Y6 (Ky l)) fun x hx=>(vX l x).1 hx) (Xn hn fun x hx=>(vX l x).2 hx)
theorem JU{p:aJ}{r:Rule}{e x:Elem}:x∈pq p r e↔x.value∈kK p r e.value/\x.counts∈tK r e.counts:=by
 unfold pq;rw[List.mem_flatMap];constructor
 ·rintro⟨v,hv,hx⟩;obtain⟨c,hc,rfl⟩:=List.mem_map.1 hx;exact⟨hv,hc⟩
 ·rintro⟨hv,hc⟩;exact⟨_,hv,List.mem_map.2 ⟨_,hc,rfl⟩⟩
theorem Y7{p:aJ}{r:Rule}{e:Elem}(h:(tK r e.counts).Nodup):(pq p r e).Nodup:=by
 unfold pq;refine List.pairwise_flatMap.2 ⟨fun v _=>?_,?_⟩
 ·rw[List.pairwise_map];exact h.imp fun {a b} hne q=>hne (congrArg Elem.counts q)
 ·refine(OG (p:=p) (r:=r) (v:=e.value)).imp fun {v u} hne x hx y hy q=>hne ?_
  obtain⟨c,_,rfl⟩:=List.mem_map.1 hx;obtain⟨d,_,rfl⟩:=List.mem_map.1 hy;exact congrArg Elem.value q
theorem Xo{p:aJ}{r:Rule}{e:Elem}(hp:oN e.counts.length r)(hx:r.ex.Nodup)(h0: ∀ j,0<=e.counts.getD j 0):aY (pq p r e)=rC (pq p r e)/\(aY (pq p r e)).length=(pq p r e).length:=by
 have hc:=OI hp hx h0;have h:aY (pq p r e)=rC (pq p r e):=by
  refine Tq fun x hx y hy hle=>?_
  obtain⟨s,hs⟩:=hc.sum;have e1:=hs _ (JU.1 hx).2;have e2:=hs _ (JU.1 hy).2;unfold mM at hle;rw[Bool.and_eq_true,beq_iff_eq] at hle;have:=(OJ hle.2).2 (by rw[e1,e2]);cases x; cases y;simp only at hle this;rw[hle.1,this]
 exact⟨h,by rw[h,Tt (Y7 hc.nd)]⟩
theorem Xp{p:aJ}{r:Rule}{e:Elem}:(pq p r e).length=(tK r e.counts).length*(kK p r e.value).length:=by
 unfold pq;generalize kK p r e.value=l;induction l with
 |nil=>rfl
 |cons v l ih=>rw[List.flatMap_cons,List.length_append,ih,List.length_map,List.length_cons,Nat.mul_succ,Nat.add_comm]
theorem LY(c:List Int)(i:Int)(j:Nat):(cu c i).getD j 0=if j=i.toNat/\j<c.length then max (c.getD j 0-1) 0 else c.getD j 0:=by
 unfold cu;generalize i.toNat=a;by_cases h:j=a
 ·subst h;by_cases hl:j<c.length
  ·rw[if_pos ⟨rfl,hl⟩]; simp[hl]
  ·rw[if_neg (fun q=>hl q.2),List.set_eq_of_length_le (by omega)]
 ·rw[if_neg (fun q=>h q.1),List.getD_eq_getElem?_getD,List.getElem?_set_ne (Ne.symm h),<- List.getD_eq_getElem?_getD]
def CY(r:Rule)(x:Nat):Int:=(if(x:Int)=r.fr then 1 else 0)+(if r.kind=2/\(x:Int)=r.je then 1 else 0)
def Jc(r:Rule)(x:Nat):Int:=(if(x:Int)=r.to then 1 else 0)+(if r.kind=2/\(x:Int)=r.zQ then 1 else 0)
def jZ(r:Rule)(c:List Int):List Int:=(List.range c.length).map fun x:Nat=>max (CY r x) (c.getD x 0-Jc r x+CY r x)
theorem Tv{l l':List Int}(h:l.length=l'.length)(H: ∀ i,i<l.length->l.getD i 0=l'.getD i 0):l=l':=by
 apply List.ext_getElem h;intro i h1 h2;have:=H i h1;simpa [h1,h2] using this
theorem Tz{r:Rule}{c:List Int}{j:Nat}(h:j<c.length):(jZ r c).getD j 0=max (CY r j) (c.getD j 0-Jc r j+CY r j):=by simp[jZ,h]
theorem CZ{r:Rule}{c:List Int}:(jZ r c).length=c.length:=by simp[jZ]
theorem EY{r:Rule}{c:List Int}(hp:oN c.length r)(h0: ∀ j,0<=c.getD j 0)(hk:r.kind≠2):jZ r c=aS (cu c r.to) r.fr 1:=by
 refine Tv (by rw[CZ,iR,dL]) fun j hj=>?_
 rw[CZ] at hj;have:=h0 j;have ea:((j:Int)=r.fr)=(j=r.fr.toNat):=propext (by have:=hp.src; omega);have eb:((j:Int)=r.to)=(j=r.to.toNat):=propext (by have:=hp.dst; omega);rw[Tz hj,mZ,LY,dL];unfold CY Jc;rcases Classical.propComplete (j=r.fr.toNat) with ta|ta<;>rcases Classical.propComplete (j=r.to.toNat) with tb|tb <;>
 ·simp only[ea,eb,ta,tb,eq_true hj,eq_false hk,true_and,false_and,if_true,if_false];omega
theorem Y8{r:Rule}{c:List Int}(hp:oN c.length r)(h0: ∀ j,0<=c.getD j 0)(hk:r.kind=2):jZ r c=aS (aS (cu (cu c r.to) r.zQ) r.je 1) r.fr 1:=by
 refine Tv (by rw[CZ,iR,iR,dL,dL]) fun j hj=>?_
 rw[CZ] at hj;have:=h0 j;have ea:((j:Int)=r.fr)=(j=r.fr.toNat):=propext (by have:=hp.src; omega);have eb:((j:Int)=r.to)=(j=r.to.toNat):=propext (by have:=hp.dst; omega);have ec:((j:Int)=r.je)=(j=r.je.toNat):=propext (by have:=hp.agm; omega);have ed:((j:Int)=r.zQ)=(j=r.zQ.toNat):=propext (by have:=hp.agn; omega);rw[Tz hj,mZ,mZ,LY,LY,iR,dL,dL];unfold CY Jc;rcases Classical.propComplete (j=r.fr.toNat) with ta|ta<;>rcases Classical.propComplete (j=r.to.toNat) with tb|tb<;>rcases Classical.propComplete (j=r.je.toNat) with tc|tc<;>rcases Classical.propComplete (j=r.zQ.toNat) with td|td <;>
 ·simp only[ea,eb,ec,ed,ta,tb,tc,td,eq_true hj,eq_true hk,true_and,false_and,and_self,if_true,if_false];omega
def cntF(r:Rule)(c:List Int):List (List Int) :=
 bif r.kind==1 then(bif qR r (cu c r.to) then [jZ r c] else r.ex.map fun x=>aS (jZ r c) x 1) else
 bif r.kind==2 then [jZ r c] else
 bif r.kind==3 then(bif lX r.response (cu c r.to) then [] else lq r.response (cu c r.to) [aS (List.replicate c.length 0) r.fr 1] c.length) else [jZ r c]
theorem ad3{r:Rule}{c:List Int}(hp:oN c.length r)(h0: ∀ j,0<=c.getD j 0):cntF r c=tK r c:=by
 unfold cntF tK zF;simp only;cases hk1:(r.kind==1) with
 |true =>
  have hb:=EY hp h0 (by have:r.kind=1:=(by simpa using hk1); omega);rw[hb];cases qR r (cu c r.to) with
  |true=>rfl
  |false =>
   show r.ex.map _=(r.ex.map _).map _;rw[List.map_map];refine List.map_congr_left fun x _=>?_
   exact LX _ _ _ _ _
 |false =>
  cases hk2:(r.kind==2) with
  |true =>
   rw[Y8 hp h0 (by simpa using hk2)]; rfl
  |false =>
   have hb:=EY hp h0 (by simpa using hk2);cases hk3:(r.kind==3) with
   |false=>rw[hb]; rfl
   |true =>
    cases lX r.response (cu c r.to) with
    |true=>rfl
    |false =>
     show lq _ _ [aS (List.replicate c.length 0) r.fr 1] c.length=(lq _ _ _ _).map _;rw[<- Xl,dL]; rfl
theorem Am{resp need:List Int}(h:lX resp need=false)(h0: ∀ j,0<=need.getD j 0)(t:Nat)(hn:need.getD t 0≠0):gZ resp t≠[]:=by
 have ht:t<need.length:=by
  rcases Nat.lt_or_ge t need.length with q|q
  ·exact q
  ·exact absurd (by simp[List.getD_eq_getElem?_getD,List.getElem?_eq_none q]) hn
 unfold lX at h;rw[List.any_eq_false] at h;have:=h t (List.mem_range.2 ht);have hp:0<need.getD t 0:=by have:=h0 t; omega
 rw[decide_eq_true hp,Bool.true_and,Bool.not_eq_true',Bool.not_eq_false] at this;have hm:=Jv.1 this;obtain⟨k,hk,he⟩:=List.getElem_of_mem hm;exact List.ne_nil_of_mem (wI.2 ⟨k,hk,by simp[hk,he],rfl⟩)
def D9(m:Nat)(resp need:List Int)(out:List (List Int))(n:Nat):List (List Int):=(List.range n).foldl (fun o t=>(yu resp need o t).take m) out
theorem IJ{m:Nat}{resp need:List Int}{out:List (List Int)}{n:Nat}:D9 m resp need out (n+1)=(yu resp need (D9 m resp need out n) n).take m:=by
 unfold D9;rw[List.range_succ,List.foldl_append]; rfl
theorem JV{m:Nat}{resp need:List Int}{out:List (List Int)}(ho:out.length<=m)(h: ∀ t,need.getD t 0≠0->gZ resp t≠[]): ∀ n,D9 m resp need out n=(lq resp need out n).take m:=by
 intro n;induction n with
 |zero=>exact(List.take_of_length_le ho).symm
 |succ n ih=>rw[IJ,uw,ih,ad1 (h n)]
theorem TA{resp need:List Int}{out:List (List Int)}(h: ∀ t,need.getD t 0≠0->gZ resp t≠[]){n:Nat}: ∀ k,(lq resp need out n).length<=(lq resp need out (n+k)).length:=by
 intro k;induction k with
 |zero=>exact Nat.le_refl _
 |succ k ih =>
  rw[<- Nat.add_assoc,uw];exact Nat.le_trans ih (abA (h _))
theorem ad4{resp need:List Int}{out:List (List Int)}{t:Nat}(h:need.getD t 0≠0):(yu resp need out t).length=out.length*(kL (gZ resp t).length (need.getD t 0).toNat).length:=by
 unfold yu;rw[show(need.getD t 0==0)=false from by simpa using h];show(out.flatMap _).length=_;induction out with
 |nil=>simp
 |cons c out ih =>
  rw[List.flatMap_cons,List.length_append,ih,vV,List.length_map,List.length_cons,Nat.succ_mul,Nat.add_comm]
theorem abD{k n f:Nat}(hf:f<=n):(kL (k+1) (n-f)).length<=(kL (k+2) n).length:=by
 have hm:f∈List.range (n+1):=List.mem_range.2 (by omega);show _<=((List.range (n+1)).flatMap fun f=>(kL (k+1) (n-f)).map fun t=>(f:Int)::t).length;obtain⟨a,b,e⟩:=List.append_of_mem hm;rw[e,List.flatMap_append,List.flatMap_cons,List.length_append,List.length_append,List.length_map];omega
def rP(k n i:Nat):List (List Int):=(List.range i).flatMap fun f=>(kL (k+1) (n-f)).map fun t=>(f:Int)::t
theorem IK{k n i:Nat}:rP k n (i+1)=rP k n i++(kL (k+1) (n-i)).map fun t=>(i:Int)::t:=by
 unfold rP;rw[List.range_succ,List.flatMap_append]; simp
theorem TB{k n:Nat}:rP k n (n+1)=kL (k+2) n:=rfl
theorem Y9{k n i:Nat}: ∀ j,(rP k n i).length<=(rP k n (i+j)).length:=by
 intro j;induction j with
 |zero=>exact Nat.le_refl _
 |succ j ih=>rw[<- Nat.add_assoc,IK,List.length_append]; omega
def uy(p:aJ)(r:Rule)(e:Elem):Int×List Elem:=bif decide (100<(pq p r e).length)||(pq p r e).any (fun x=> !(x.counts.all Bh)) then(4,[]) else(0,aY (pq p r e))
def C9(r:Rule)(c:List Int):List (List Int) :=
 bif r.kind==3 then(bif lX r.response (cu c r.to) then [] else D9 101 r.response (cu c r.to) [aS (List.replicate c.length 0) r.fr 1] c.length) else cntF r c
theorem Xq{r:Rule}{c:List Int}(hp:oN c.length r)(h0: ∀ j,0<=c.getD j 0):C9 r c=tK r c\/r.kind=3/\C9 r c=(tK r c).take 101:=by
 have hc:=ad3 hp h0;rw[<- hc];unfold C9;cases hk:(r.kind==3) with
 |false=>exact .inl rfl
 |true =>
  have hk3:r.kind=3:=by simpa using hk
  right;refine⟨hk3,?_⟩;unfold cntF;rw[show(r.kind==1)=false by simp[hk3],show(r.kind==2)=false by simp[hk3],hk];cases hs:lX r.response (cu c r.to) with
  |true=>rfl
  |false=>exact JV (show 1<=101 by decide) (Am hs (CX h0)) _
def Ns(p:aJ)(r:Rule)(e:Elem):List Elem:=(kK p r e.value).flatMap fun v=>(C9 r e.counts).map fun c=>⟨v,c⟩
def VP(p:aJ)(r:Rule)(e:Elem):Int×List Elem:=bif decide (100<(aY (Ns p r e)).length)||(aY (Ns p r e)).any (jU p) then(4,[]) else(0,aY (Ns p r e))
theorem Xr{p:aJ}{r:Rule}{e:Elem}(hp:oN e.counts.length r)(hx:r.ex.Nodup)(h0: ∀ j,0<=e.counts.getD j 0){x:Elem}:x∈aY (pq p r e)↔x∈pq p r e:=by
 rw[(Xo hp hx h0).1,vX]
theorem TD{vs:List Int}{cs:List (List Int)}{x:Elem}:x∈(vs.flatMap fun v=>cs.map fun c=>(⟨v,c⟩:Elem))↔x.value∈vs/\x.counts∈cs:=by
 rw[List.mem_flatMap];constructor
 ·rintro⟨v,hv,hx⟩;obtain⟨c,hc,rfl⟩:=List.mem_map.1 hx;exact⟨hv,hc⟩
 ·rintro⟨hv,hc⟩;exact⟨_,hv,List.mem_map.2 ⟨_,hc,rfl⟩⟩
theorem abE{vs:List Int}{cs:List (List Int)}:(vs.flatMap fun v=>cs.map fun c=>(⟨v,c⟩:Elem)).length=cs.length*vs.length:=by
 induction vs with
 |nil=>rfl
 |cons v l ih=>rw[List.flatMap_cons,List.length_append,ih,List.length_map,List.length_cons,Nat.mul_succ,Nat.add_comm]
theorem abG{n:Nat}{vs:List Int}{cs:List (List Int)}(hv:vs.Nodup)(hc:Even n cs):aY (vs.flatMap fun v=>cs.map fun c=>(⟨v,c⟩:Elem))=rC (vs.flatMap fun v=>cs.map fun c=>(⟨v,c⟩:Elem))/\(aY (vs.flatMap fun v=>cs.map fun c=>(⟨v,c⟩:Elem))).length=cs.length*vs.length:=by
 have hn:(vs.flatMap fun v=>cs.map fun c=>(⟨v,c⟩:Elem)).Nodup:=by
  refine List.pairwise_flatMap.2 ⟨fun v _=>?_,?_⟩
  ·rw[List.pairwise_map];exact hc.nd.imp fun {a b} hne q=>hne (congrArg Elem.counts q)
  ·refine hv.imp fun {v u} hne x hx y hy q=>hne ?_
   obtain⟨c,_,rfl⟩:=List.mem_map.1 hx;obtain⟨d,_,rfl⟩:=List.mem_map.1 hy;exact congrArg Elem.value q
 have h:aY (vs.flatMap fun v=>cs.map fun c=>(⟨v,c⟩:Elem))=rC (vs.flatMap fun v=>cs.map fun c=>(⟨v,c⟩:Elem)):=by
  refine Tq fun x hx y hy hle=>?_
  obtain⟨s,hs⟩:=hc.sum;have e1:=hs _ (TD.1 hx).2;have e2:=hs _ (TD.1 hy).2;unfold mM at hle;rw[Bool.and_eq_true,beq_iff_eq] at hle;have:=(OJ hle.2).2 (by rw[e1,e2]);cases x; cases y;simp only at hle this;rw[hle.1,this]
 exact⟨h,by rw[h,Tt hn,abE]⟩
theorem Even.take{n m:Nat}{l:List (List Int)}(h:Even n l):Even n (l.take m):=by
 obtain⟨s,hs⟩:=h.sum;exact⟨h.nd.sublist (List.take_sublist m l),fun c hc=>h.len c (List.mem_of_mem_take hc),s,fun c hc=>hs c (List.mem_of_mem_take hc)⟩
theorem ad5{p:aJ}{r:Rule}{e:Elem}(hp:oN e.counts.length r)(hx:r.ex.Nodup)(h0: ∀ j,0<=e.counts.getD j 0)(hl:e.counts.length=p.states.length)(hv: ∀ v∈kK p r e.value,0<=v/\v<max 1 (p.values.length:Int)):VP p r e=uy p r e:=by
 have hE:=OI hp hx h0;have same:Ns p r e=pq p r e->VP p r e=uy p r e:=fun q=>by
  unfold VP uy;rw[q,(Xo hp hx h0).2]
  have:(aY (pq p r e)).any (jU p)=(pq p r e).any fun x=> !(x.counts.all Bh):=by
   have ag8: ∀ x∈pq p r e,jU p x= !(x.counts.all Bh):=fun x hx=>by
    obtain⟨h1,h2⟩:=JU.1 hx;have hlen:=hE.len _ h2;have hval:=hv _ h1;unfold jU;rw[show((x.counts.length:Int) !=p.states.length)=false by simp; omega,show decide (x.value<0)=false by simp; omega,show decide (x.value>=max 1 (p.values.length:Int))=false by simp only[decide_eq_false_iff_not]; omega];simp
   rw[Bool.eq_iff_iff,List.any_eq_true,List.any_eq_true];constructor
   ·rintro⟨x,h1,h2⟩;have h1:=(Xr hp hx h0).1 h1;exact⟨x,h1,by rw[<- ag8 x h1]; exact h2⟩
   ·rintro⟨x,h1,h2⟩;exact⟨x,(Xr hp hx h0).2 h1,by rw[ag8 x h1]; exact h2⟩
  rw[this]
 rcases Xq hp h0 with h|⟨_,h⟩
 ·exact same (by unfold Ns pq; rw[h])
 ·rcases Nat.lt_or_ge 101 (tK r e.counts).length with hc|hc
  ·cases hvs:kK p r e.value with
   |nil=>exact same (by unfold Ns pq; rw[hvs]; rfl)
   |cons v vs =>
    have h1:100<(aY (Ns p r e)).length:=by
     unfold Ns;rw[h,(abG OG hE.take).2,hvs,List.length_take,List.length_cons,Nat.mul_succ]; omega
    have h2:100<(pq p r e).length:=by
     rw[Xp,hvs,List.length_cons,Nat.mul_succ]; omega
    unfold VP uy;rw[decide_eq_true h1,decide_eq_true h2]; rfl
  ·exact same (by unfold Ns pq; rw[h,List.take_of_length_le hc])
def ad6(p:aJ)(r:Rule)(e:Elem):Int×List Elem :=
 bif (kK p r e.value).length==0 then(0,[]) else bif decide (100<(tK r e.counts).length)||decide (100<(tK r e.counts).length*(kK p r e.value).length) then(4,[]) else
 bif (pq p r e).any (fun x=> !(x.counts.all Bh)) then(4,[]) else(0,aY (pq p r e))
theorem VQ:aY []=[]:=by
 have h: ∀ x,x ∉ aY []:=fun x hx=>by
  unfold aY at hx;rw[vX] at hx;simp at hx
 exact List.eq_nil_iff_forall_not_mem.2 h
theorem ad7{p:aJ}{r:Rule}{e:Elem}:ad6 p r e=uy p r e:=by
 unfold ad6 uy;rw[Xp];cases hv:((kK p r e.value).length==0) with
 |true =>
  have h0:kK p r e.value=[]:=by simpa using hv
  have hz:pq p r e=[]:=by unfold pq; rw[h0]; rfl
  rw[hz,h0,VQ]; rfl
 |false =>
  have h0:(kK p r e.value).length≠0:=by simpa using hv
  have hm:(tK r e.counts).length<=(tK r e.counts).length*(kK p r e.value).length:=Nat.le_mul_of_pos_right _ (Nat.pos_of_ne_zero h0);have e1:(decide (100<(tK r e.counts).length)||decide (100<(tK r e.counts).length*(kK p r e.value).length))=decide (100<(tK r e.counts).length*(kK p r e.value).length):=by
   rw[Bool.eq_iff_iff,Bool.or_eq_true,decide_eq_true_eq,decide_eq_true_eq];omega
  show(bif _||_ then _ else _)=_;rw[e1];cases decide (100<(tK r e.counts).length*(kK p r e.value).length)<;>rfl
theorem ad8{resp need:List Int}{out:List (List Int)}(h: ∀ t,need.getD t 0≠0->gZ resp t≠[]){t n:Nat}(ht:t<=n)(hb:100<(lq resp need out t).length):100<(lq resp need out n).length:=by
 obtain⟨k,rfl⟩:=Nat.exists_eq_add_of_le ht;exact Nat.lt_of_lt_of_le hb (TA h k)
def divO(k n:Nat):Option (List (List Int)):=if(kL k n).length<=100 then some (kL k n) else none
theorem Za{k n f:Nat}(hf:f<=n)(h:divO (k+1) (n-f)=none):divO (k+2) n=none:=by
 unfold divO at h ⊢;have:=abD (k:=k) hf;split at h
 ·cases h
 ·rw[if_neg (by omega)]
theorem abH{k n i:Nat}(hi:i<=n+1)(h:100<(rP k n i).length):divO (k+2) n=none:=by
 unfold divO;obtain⟨j,hj⟩:=Nat.exists_eq_add_of_le hi;have:=Y9 (k:=k) (n:=n) (i:=i) j;rw[<- hj,TB] at this;rw[if_neg (by omega)]
end Go.Proofs.YtkmldgihhaooaaaGreatDoor
