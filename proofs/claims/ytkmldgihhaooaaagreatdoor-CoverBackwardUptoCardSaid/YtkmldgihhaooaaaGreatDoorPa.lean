/-
 All ways to divide a number among places: plain laws. No condition.
-/
import Derived.Test.YtkmldgihhaooaaaGreatDoorFa
import Derived.Test.YtkmldgihhaooaaaGreatDoorKa
import Derived.Test.YtkmldgihhaooaaaGreatDoorRb
namespace Go.Proofs.YtkmldgihhaooaaaGreatDoor
open Go.Ab Go.Proofs
set_option maxRecDepth 100000
def kN:Nat->Nat->List (List Int)
 |0,_=>[]
 |1,n=>[[(n:Int)]]
 |k+2,n=>(List.range (n+1)).flatMap fun f=>(kN (k+1) (n-f)).map fun t=>(f:Int)::t
def oH:List Int->List Int->List Int->List Int
 |c,x::xs,k::ks=>oH (aT c x k) xs ks
 |c,_,_=>c
def Bv:List Int->List Int->Nat->List (List Int)
 |_,[],_=>[]
 |c,[x],n=>[aT c x n]
 |c,x::y::r,n=>(List.range (n+1)).flatMap fun k:Nat=>Bv (aT c x k) (y::r) (n-k)
theorem wu: ∀ {l:List Int} {c:List Int} {n:Nat},Bv c l n=(kN l.length n).map (oH c l):=by
 intro l;induction l with
 |nil=>intro c n; rfl
 |cons x r ih =>
  intro c n;cases r with
  |nil=>rfl
  |cons y r =>
   show((List.range (n+1)).flatMap fun k:Nat=>Bv (aT c x k) (y::r) (n-k))=((List.range (n+1)).flatMap fun f=>(kN (r.length+1) (n-f)).map fun t=>(f:Int)::t).map (oH c (x::y::r));rw[List.map_flatMap]
   congr 1
   funext k;rw[ih,List.map_map];rfl
theorem div_pos: ∀ {k n:Nat},0<k->kN k n≠[]:=by
 intro k;induction k with
 |zero=>intro n h; exact absurd h (Nat.lt_irrefl _)
 |succ k ih =>
  intro n _;cases k with
  |zero=>simp[kN]
  |succ k =>
   intro h;simp only[kN,List.flatMap_eq_nil_iff,List.map_eq_nil_iff] at h;exact ih (n:=n-0) (Nat.succ_pos _) (h 0 (by simp))
theorem G9: ∀ {k n:Nat} {s:List Int},s∈kN k n->s.length=k:=by
 intro k;induction k with
 |zero=>intro n s h; cases h
 |succ k ih =>
  intro n s h;cases k with
  |zero=>simp only[kN,List.mem_singleton] at h; subst h; rfl
  |succ k =>
   simp only[kN,List.mem_flatMap,List.mem_map] at h;obtain⟨f,_,t,ht,rfl⟩:=h;rw[List.length_cons,ih ht]
theorem Qr: ∀ {k n:Nat} {s:List Int},s∈kN k n->s.sum=n/\ ∀ x∈s,0<=x:=by
 intro k;induction k with
 |zero=>intro n s h; cases h
 |succ k ih =>
  intro n s h;cases k with
  |zero =>
   simp only[kN,List.mem_singleton] at h; subst h;exact⟨by simp,fun x hx=>by simp at hx; omega⟩
  |succ k =>
   simp only[kN,List.mem_flatMap,List.mem_map,List.mem_range] at h;obtain⟨f,hf,t,ht,rfl⟩:=h;obtain⟨h1,h2⟩:=ih ht;refine⟨by rw[List.sum_cons,h1]; omega,fun x hx=>?_⟩;rcases List.mem_cons.1 hx with rfl|hx
   ·omega
   ·exact h2 x hx
theorem Zj: ∀ {k n:Nat},(kN k n).Nodup:=by
 intro k;induction k with
 |zero=>intro n; exact List.nodup_nil
 |succ k ih =>
  intro n;cases k with
  |zero=>simp[kN]
  |succ k =>
   simp only[kN];refine List.pairwise_flatMap.2 ⟨fun f _=>?_,?_⟩
   ·exact List.Pairwise.map _ (fun a b h q=>h (List.cons.inj q).2) ih
   ·refine List.Pairwise.imp ?_ List.nodup_range;intro a b hab s h1 u h2 e;rw[List.mem_map] at h1 h2;obtain⟨t,_,rfl⟩:=h1;obtain⟨v,_,rfl⟩:=h2;have:=(List.cons.inj e).1;exact hab (by omega)
theorem TG{α β:Type}{f:α->List β}: ∀ {l:List α},(∀ x∈l,f x≠[])->l.length<=(l.flatMap f).length:=by
 intro l;induction l with
 |nil=>intro _; exact Nat.zero_le _
 |cons x r ih =>
  intro h;have h1:0<(f x).length:=List.length_pos_iff.2 (h x (by simp));have h2:=ih fun y hy=>h y (by simp[hy])
  rw[List.flatMap_cons,List.length_append,List.length_cons]; omega
theorem Zk{α β:Type}{f:α->List β}{m:Nat}{l:List α}(h: ∀ x∈l,f x≠[]):((l.take m).flatMap f).take m=(l.flatMap f).take m:=by
 rcases Nat.lt_or_ge l.length m with hl|hl
 ·rw[List.take_of_length_le (Nat.le_of_lt hl)]
 ·have hlen:=TG (l:=l.take m) fun x hx=>h x (List.mem_of_mem_take hx)
  rw[List.length_take,Nat.min_eq_left hl] at hlen;have e:l.flatMap f=(l.take m).flatMap f++(l.drop m).flatMap f:=by
   rw[<- List.flatMap_append,List.take_append_drop]
  rw[e,List.take_append_of_le_length hlen]
def qI{α:Type}(m:Nat)(out more:List α):List α:=(out++more).take m
theorem IY{α:Type}{m:Nat}{o a b:List α}:qI m (qI m o a) b=qI m o (a++b):=by
 unfold qI;rw[<- List.append_assoc];generalize o++a=l;rcases Nat.lt_or_ge l.length m with h|h
 ·rw[List.take_of_length_le (Nat.le_of_lt h)]
 ·rw[List.take_append_of_le_length (by rw[List.length_take]; omega),List.take_take,Nat.min_self,List.take_append_of_le_length h]
theorem MH(c:List Int)(i d j e:Int):aT (aT c i d) j e=aT (aT c j e) i d:=by
 unfold aT;generalize i.toNat=a;generalize j.toNat=b;by_cases h:a=b
 ·subst h;rw[List.set_set,List.set_set];rcases Nat.lt_or_ge a c.length with hl|hl
  ·have e1: ∀ v:Int,(c.set a v).getD a 0=v:=fun v=>by simp[hl]
   rw[e1,e1]
   congr 1
   omega
  ·rw[List.set_eq_of_length_le hl,List.set_eq_of_length_le hl]
 ·have e1: ∀ v:Int,(c.set a v).getD b 0=c.getD b 0:=fun v=>by rw[List.getD_eq_getElem?_getD,List.getElem?_set_ne h,<- List.getD_eq_getElem?_getD]
  have e2: ∀ v:Int,(c.set b v).getD a 0=c.getD a 0:=fun v=>by rw[List.getD_eq_getElem?_getD,List.getElem?_set_ne (Ne.symm h),<- List.getD_eq_getElem?_getD]
  rw[e1,e2,List.set_comm _ _ h]
theorem Zl: ∀ {xs ks:List Int} {c:List Int} {i d:Int},oH (aT c i d) xs ks=aT (oH c xs ks) i d:=by
 intro xs;induction xs with
 |nil=>intro ks c i d; rfl
 |cons x xs ih =>
  intro ks c i d;cases ks with
  |nil=>rfl
  |cons k ks =>
   show oH (aT (aT c i d) x k) xs ks=aT (oH (aT c x k) xs ks) i d;rw[MH,ih]
def iq(resp:List Int)(t:Nat):List Int:=((List.range resp.length).filter fun x=>resp.getD x 0==(t:Int)).map fun x:Nat=>(x:Int)
def yt(resp need:List Int)(out:List (List Int))(t:Nat):List (List Int):=bif need.getD t 0==0 then out else out.flatMap fun c=>Bv c (iq resp t) (need.getD t 0).toNat
def lF(resp need:List Int)(out:List (List Int))(n:Nat):List (List Int):=(List.range n).foldl (yt resp need) out
theorem uI{resp need:List Int}{out:List (List Int)}{n:Nat}:lF resp need out (n+1)=yt resp need (lF resp need out n) n:=by
 unfold lF;rw[List.range_succ,List.foldl_append]; rfl
theorem aee{resp need:List Int}{out:List (List Int)}{t:Nat}{i d:Int}:yt resp need (out.map fun c=>aT c i d) t=(yt resp need out t).map fun c=>aT c i d:=by
 unfold yt;cases need.getD t 0==0 with
 |true=>rfl
 |false =>
  show(out.map fun c=>aT c i d).flatMap _=(out.flatMap _).map _;rw[List.flatMap_map,List.map_flatMap]
  congr 1
  funext c;rw[wu,wu,List.map_map];refine List.map_congr_left fun s _=>?_
  exact Zl
theorem XA{resp need:List Int}{out:List (List Int)}{n:Nat}{i d:Int}:lF resp need (out.map fun c=>aT c i d) n=(lF resp need out n).map fun c=>aT c i d:=by
 induction n with
 |zero=>rfl
 |succ n ih=>rw[uI,uI,ih,aee]
theorem aef{resp need:List Int}{out:List (List Int)}{t m:Nat}(h:need.getD t 0≠0->iq resp t≠[]):(yt resp need (out.take m) t).take m=(yt resp need out t).take m:=by
 unfold yt;cases hb:(need.getD t 0==0) with
 |true=>show(out.take m).take m=out.take m; rw[List.take_take,Nat.min_self]
 |false =>
  have hf:=h (by simpa using hb);refine Zk fun c _=>?_
  rw[wu];intro e;rw[List.map_eq_nil_iff] at e;exact div_pos (List.length_pos_iff.2 hf) e
theorem abP{resp need:List Int}{out:List (List Int)}{t:Nat}(h:need.getD t 0≠0->iq resp t≠[]):out.length<=(yt resp need out t).length:=by
 unfold yt;cases hb:(need.getD t 0==0) with
 |true=>exact Nat.le_refl _
 |false =>
  have hf:=h (by simpa using hb);refine TG fun c _=>?_
  rw[wu];intro e;rw[List.map_eq_nil_iff] at e;exact div_pos (List.length_pos_iff.2 hf) e
theorem iU(c:List Int)(i d:Int):(aT c i d).length=c.length:=by simp[aT]
theorem nG(c:List Int)(i d:Int)(j:Nat):(aT c i d).getD j 0=if j=i.toNat/\j<c.length then c.getD j 0+d else c.getD j 0:=by
 unfold aT;generalize i.toNat=a;by_cases h:j=a
 ·subst h;by_cases hl:j<c.length
  ·rw[if_pos ⟨rfl,hl⟩]; simp[hl]
  ·rw[if_neg (fun q=>hl q.2),List.set_eq_of_length_le (by omega)]
 ·rw[if_neg (fun q=>h q.1),List.getD_eq_getElem?_getD,List.getElem?_set_ne (Ne.symm h),<- List.getD_eq_getElem?_getD]
theorem IZ: ∀ (c:List Int) (i d:Int),i.toNat<c.length->(aT c i d).sum=c.sum+d:=by
 intro c i d;unfold aT;generalize i.toNat=a;induction c generalizing a with
 |nil=>intro h; exact absurd h (Nat.not_lt_zero _)
 |cons x r ih =>
  intro h;cases a with
  |zero=>simp only[List.set_cons_zero,List.sum_cons,List.getD_cons_zero]; omega
  |succ a =>
   have:=ih a (by simpa using h);simp only[List.set_cons_succ,List.sum_cons,List.getD_cons_succ]; omega
theorem TI: ∀ {xs ks:List Int} {c:List Int},(oH c xs ks).length=c.length:=by
 intro xs;induction xs with
 |nil=>intro ks c; rfl
 |cons x xs ih =>
  intro ks c;cases ks with
  |nil=>rfl
  |cons k ks=>show(oH (aT c x k) xs ks).length=_; rw[ih,iU]
theorem Df: ∀ {xs ks:List Int} {c:List Int} {j:Nat},(∀ x∈xs,x.toNat≠j)->(oH c xs ks).getD j 0=c.getD j 0:=by
 intro xs;induction xs with
 |nil=>intro ks c j _; rfl
 |cons x xs ih =>
  intro ks c j h;cases ks with
  |nil=>rfl
  |cons k ks =>
   show(oH (aT c x k) xs ks).getD j 0=_;rw[ih fun y hy=>h y (by simp[hy]),nG,if_neg fun q=>h x (by simp) q.1.symm]
theorem abQ: ∀ {xs ks:List Int} {c:List Int},xs.length=ks.length->(∀ x∈xs,x.toNat<c.length)->(oH c xs ks).sum=c.sum+ks.sum:=by
 intro xs;induction xs with
 |nil =>
  intro ks c h _;cases ks with
  |nil=>show c.sum=c.sum+0; omega
  |cons k ks=>simp at h
 |cons x xs ih =>
  intro ks c h hx;cases ks with
  |nil=>simp at h
  |cons k ks =>
   show(oH (aT c x k) xs ks).sum=_;rw[ih (by simpa using h) fun y hy=>by rw[iU]; exact hx y (by simp[hy]),IZ c x k (hx x (by simp)),List.sum_cons]; omega
def Dst(xs:List Int):Prop:=xs.Pairwise fun a b=>a.toNat≠b.toNat
theorem TJ: ∀ {xs ks ks':List Int} {c:List Int},Dst xs->(∀ x∈xs,x.toNat<c.length)->xs.length=ks.length->xs.length=ks'.length->oH c xs ks=oH c xs ks'->ks=ks':=by
 intro xs;induction xs with
 |nil =>
  intro ks ks' c _ _ h1 h2 _;rw[List.length_eq_zero_iff.1 h1.symm,List.length_eq_zero_iff.1 h2.symm]
 |cons x xs ih =>
  intro ks ks' c hd hx h1 h2 e;cases ks with
  |nil=>simp at h1
  |cons k ks =>
   cases ks' with
   |nil=>simp at h2
   |cons k' ks' =>
    have hd':=List.pairwise_cons.1 hd;have hne: ∀ y∈xs,y.toNat≠x.toNat:=fun y hy=>Ne.symm (hd'.1 y hy)
    have hl:=hx x (by simp);have e:oH (aT c x k) xs ks=oH (aT c x k') xs ks':=e;have e1:=congrArg (fun l=>l.getD x.toNat 0) e;rw[Df hne,Df hne,nG,nG,if_pos ⟨rfl,hl⟩,if_pos ⟨rfl,hl⟩] at e1;have hk:k=k':=by omega
    subst hk;rw[ih hd'.2 (fun y hy=>by rw[iU]; exact hx y (by simp[hy])) (by simpa using h1) (by simpa using h2) e]
theorem Zm{xs ks ks':List Int}{c c':List Int}(hd:Dst xs)(hx: ∀ x∈xs,x.toNat<c.length)(hl:c.length=c'.length)(h1:xs.length=ks.length)(h2:xs.length=ks'.length)(ha: ∀ x∈xs,c.getD x.toNat 0=c'.getD x.toNat 0)(e:oH c xs ks=oH c' xs ks'):c=c'/\ks=ks':=by
 have hc:c=c':=by
  apply List.ext_getElem hl;intro j j1 j2;by_cases hj: ∃ x∈xs,x.toNat=j
  ·obtain⟨x,hx1,rfl⟩:=hj;have:=ha x hx1;simpa [j1,j2] using this
  ·have hj': ∀ x∈xs,x.toNat≠j:=fun x hx1 q=>hj ⟨x,hx1,q⟩
   have:=congrArg (fun l=>l.getD j 0) e;rw[Df hj',Df hj'] at this;simpa [j1,j2] using this
 subst hc;exact⟨rfl,TJ hd hx h1 h2 e⟩
theorem OT{resp:List Int}{t:Nat}:Dst (iq resp t):=by
 unfold Dst iq;rw[List.pairwise_map];refine List.Pairwise.filter _ ?_;exact List.pairwise_lt_range.imp fun h=>by omega
theorem wO{resp:List Int}{t:Nat}{x:Int}:x∈iq resp t↔ ∃ k:Nat,k<resp.length/\resp.getD k 0=(t:Int)/\x=k:=by
 unfold iq;rw[List.mem_map];constructor
 ·rintro⟨k,h,rfl⟩;obtain⟨h1,h2⟩:=List.mem_filter.1 h;exact⟨k,List.mem_range.1 h1,by simpa using h2,rfl⟩
 ·rintro⟨k,h1,h2,rfl⟩;exact⟨k,List.mem_filter.2 ⟨List.mem_range.2 h1,by simpa using h2⟩,rfl⟩
structure aeg(resp need b:List Int)(n:Nat)(out:List (List Int)):Prop where
 nd:out.Nodup
 len: ∀ c∈out,c.length=resp.length
 old: ∀ c∈out,∀ j,j<resp.length->(n:Int)<=resp.getD j 0->c.getD j 0=b.getD j 0
 sum: ∀ c∈out,c.sum=b.sum+(need.take n).sum
theorem aeg.next{resp need b:List Int}{n:Nat}{out:List (List Int)}(h:aeg resp need b n out)(hn:n<need.length)(h0:0<=need.getD n 0):aeg resp need b (n+1) (yt resp need out n):=by
 have hs:(need.take (n+1)).sum=(need.take n).sum+need.getD n 0:=by
  rw[List.take_add_one,List.getElem?_eq_getElem hn,List.sum_append,show need.getD n 0=need[n] from by simp[hn]];simp
 unfold yt;cases hb:(need.getD n 0==0) with
 |true =>
  have hz:need.getD n 0=0:=by simpa using hb
  refine⟨h.nd,h.len,fun c hc j hj hr=>h.old c hc j hj (by omega),fun c hc=>?_⟩;rw[hs,hz,h.sum c hc]; omega
 |false =>
  have hin: ∀ c∈out,∀ x∈iq resp n,x.toNat<c.length:=fun c hc x hx=>by
   obtain⟨k,hk,_,rfl⟩:=wO.1 hx;rw[h.len c hc,Int.toNat_natCast]; exact hk
  have key: ∀ c∈out,∀ d∈Bv c (iq resp n) (need.getD n 0).toNat,∃ s∈kN (iq resp n).length (need.getD n 0).toNat,d=oH c (iq resp n) s/\(iq resp n).length=s.length:=fun c _ d hd=>by
   rw[wu,List.mem_map] at hd;obtain⟨s,hs,rfl⟩:=hd;exact⟨s,hs,rfl,(G9 hs).symm⟩
  refine⟨?_,fun d hd=>?_,fun d hd j hj hr=>?_,fun d hd=>?_⟩
  ·refine List.pairwise_flatMap.2 ⟨fun c hc=>?_,?_⟩
   ·rw[wu];have hn:(kN (iq resp n).length (need.getD n 0).toNat).Nodup:=Zj;rw[List.pairwise_map];refine hn.imp_of_mem fun {s u} hs hu hne e=>hne ?_
    exact TJ OT (hin c hc) (G9 hs).symm (G9 hu).symm e
   ·refine List.Pairwise.imp_of_mem (fun {c c'} hc hc' hne d hd d' hd' e=>?_) h.nd;obtain⟨s,_,rfl,l1⟩:=key c hc d hd;obtain⟨s',_,rfl,l2⟩:=key c' hc' d' hd';refine hne (Zm OT (hin c hc) (by rw[h.len c hc,h.len c' hc']) l1 l2 (fun x hx=>?_) e).1;obtain⟨k,hk,hr,rfl⟩:=wO.1 hx;rw[Int.toNat_natCast,h.old c hc k hk (by omega),h.old c' hc' k hk (by omega)]
  ·obtain⟨c,hc,hd⟩:=List.mem_flatMap.1 hd;obtain⟨s,_,rfl,_⟩:=key c hc d hd;rw[TI,h.len c hc]
  ·obtain⟨c,hc,hd⟩:=List.mem_flatMap.1 hd;obtain⟨s,_,rfl,_⟩:=key c hc d hd;rw[Df (fun x hx=>?_),h.old c hc j hj (by omega)];obtain⟨k,hk,hr',rfl⟩:=wO.1 hx;rw[Int.toNat_natCast];rintro rfl;omega
  ·obtain⟨c,hc,hd⟩:=List.mem_flatMap.1 hd;obtain⟨s,hs',rfl,l1⟩:=key c hc d hd;rw[abQ l1 (hin c hc),h.sum c hc,(Qr hs').1,hs,Int.toNat_of_nonneg h0]; omega
theorem XB{resp need b:List Int}{n:Nat}(hb:b.length=resp.length)(hn:n<=need.length)(h0: ∀ i,0<=need.getD i 0):aeg resp need b n (lF resp need [b] n):=by
 induction n with
 |zero =>
  refine⟨by simp[lF],fun c hc=>?_,fun c hc j _ _=>?_,fun c hc=>?_⟩ <;>
  ·have:c=b:=by simpa [lF] using hc
   subst this;first|exact hb|rfl|simp
 |succ n ih =>
  rw[uI];exact(ih (by omega)).next (by omega) (h0 n)
def kL(p:aI)(r:Rule)(v:Int):List Int :=
 bif decide (0<=r.write)&&r.write !=v then [] else bif decide (r.write<0)&&(decide (0<=r.read)&&r.read !=v) then [] else
 bif decide (0<=r.read) then [r.read] else bif decide (r.write<0) then [v] else(List.range (max 1 p.values.length)).map fun x:Nat=>(x:Int)
def cO(c:List Int)(i:Int):List Int:=c.set i.toNat (max (c.getD i.toNat 0-1) 0)
def mD(resp need:List Int):Bool:=(List.range need.length).any fun t=>decide (0<need.getD t 0)&& !(Kv resp t)
def zJ(r:Rule)(c:List Int):List (List Int) :=
 let rest:=cO c r.to
 bif r.kind==1 then(bif qV r rest then [rest] else r.ex.map fun x=>aT rest x 1) else
 bif r.kind==2 then [aT (cO rest r.zV) r.jh 1] else
 bif r.kind==3 then(bif mD r.response rest then [] else lF r.response rest [List.replicate rest.length 0] rest.length) else [rest]
def tZ(r:Rule)(c:List Int):List (List Int):=(zJ r c).map fun l=>aT l r.fr 1
def pI(p:aI)(r:Rule)(e:Elem):List Elem:=(kL p r e.value).flatMap fun v=>(tZ r e.counts).map fun c=>⟨v,c⟩
theorem OU{p:aI}{r:Rule}{v:Int}:(kL p r v).Nodup:=by
 unfold kL;cases decide (0<=r.write)&&r.write !=v
 ·cases decide (r.write<0)&&(decide (0<=r.read)&&r.read !=v)
  ·cases decide (0<=r.read)
   ·cases decide (r.write<0)
    ·show((List.range _).map _).Nodup;refine List.Pairwise.map _ (fun a b h q=>h ?_) List.nodup_range;omega
    ·simp
   ·simp
  ·simp
 ·simp
theorem dO{c:List Int}{i:Int}:(cO c i).length=c.length:=by simp[cO]
theorem Dh{c:List Int}{i:Int}(h: ∀ j,0<=c.getD j 0)(j:Nat):0<=(cO c i).getD j 0:=by
 unfold cO;generalize i.toNat=a;by_cases hj:j=a
 ·subst hj;by_cases hl:j<c.length
  ·have e:(c.set j (max (c.getD j 0-1) 0)).getD j 0=max (c.getD j 0-1) 0:=by simp[hl]
   rw[e]; omega
  ·rw[List.set_eq_of_length_le (by omega)]; exact h j
 ·rw[List.getD_eq_getElem?_getD,List.getElem?_set_ne (Ne.symm hj),<- List.getD_eq_getElem?_getD]; exact h j
theorem OW(c:List Int)(i d:Int):aT (aT c i d) i (-d)=c:=by
 unfold aT;generalize i.toNat=a;rw[List.set_set];by_cases hl:a<c.length
 ·have e:(c.set a (c.getD a 0+d)).getD a 0=c.getD a 0+d:=by simp[hl]
  rw[e];apply List.ext_getElem (by simp);intro j h1 h2;rw[List.getElem_set];split
  ·rename_i q; subst q; simp[hl]; omega
  ·rfl
 ·rw[List.set_eq_of_length_le (by omega)]
theorem Zn{a b:List Int}{i d:Int}(h:aT a i d=aT b i d):a=b:=by
 rw[<- OW a i d,h,OW]
structure Even(n:Nat)(l:List (List Int)):Prop where
 nd:l.Nodup
 len: ∀ c∈l,c.length=n
 sum: ∃ s:Int,∀ c∈l,c.sum=s
theorem Even.one{n:Nat}{c:List Int}(h:c.length=n):Even n [c]:=⟨by simp,fun d hd=>by simp at hd; subst hd; exact h,c.sum,fun d hd=>by simp at hd; subst hd; rfl⟩
theorem abR{r:Rule}{c:List Int}(hp:oW c.length r)(hx:r.ex.Nodup)(h0: ∀ j,0<=c.getD j 0):Even c.length (zJ r c):=by
 have hl:(cO c r.to).length=c.length:=dO;unfold zJ;simp only;cases hk1:(r.kind==1) with
 |true =>
  cases qV r (cO c r.to) with
  |true=>exact .one hl
  |false =>
   have key: ∀ x∈r.ex,x.toNat<(cO c r.to).length/\0<=x:=fun x q=>by have:=hp.exs x q; omega
   refine⟨?_,fun d hd=>?_,(cO c r.to).sum+1,fun d hd=>?_⟩
   ·show(r.ex.map _).Nodup;rw[List.Nodup,List.pairwise_map];refine List.Pairwise.imp_of_mem (fun {x y} h1 h2 hne e=>hne ?_) hx;have e1:=congrArg (fun l=>l.getD x.toNat 0) e;have k1:=key x h1;have k2:=key y h2;replace e1:(aT (cO c r.to) x 1).getD x.toNat 0=(aT (cO c r.to) y 1).getD x.toNat 0:=e1;rw[nG,nG,if_pos ⟨rfl,k1.1⟩] at e1;split at e1
    ·omega
    ·omega
   ·obtain⟨x,_,rfl⟩:=List.mem_map.1 hd;rw[iU,hl]
   ·obtain⟨x,hx1,rfl⟩:=List.mem_map.1 hd;exact IZ _ _ _ (key x hx1).1
 |false =>
  cases hk2:(r.kind==2) with
  |true=>exact .one (by rw[iU,dO,hl])
  |false =>
   cases hk3:(r.kind==3) with
   |false=>exact .one hl
   |true =>
    cases mD r.response (cO c r.to) with
    |true =>
     show Even c.length [];exact⟨List.nodup_nil,(fun d hd=>by cases hd),0,fun d hd=>by cases hd⟩
    |false =>
     have hr:=(hp.rsp (by simpa using hk3)).1;have:=XB (resp:=r.response) (need:=cO c r.to) (b:=List.replicate (cO c r.to).length 0) (by rw[List.length_replicate,hl,hr]) (Nat.le_refl _) (Dh h0);exact⟨this.nd,fun d hd=>by rw[this.len d hd,hr],_,this.sum⟩
theorem Even.add{n:Nat}{l:List (List Int)}{i d:Int}(h:Even n l)(hi:i.toNat<n):Even n (l.map fun c=>aT c i d):=by
 obtain⟨s,hs⟩:=h.sum;refine⟨?_,fun e he=>?_,s+d,fun e he=>?_⟩
 ·rw[List.Nodup,List.pairwise_map];exact h.nd.imp fun {a b} hne e=>hne (Zn e)
 ·obtain⟨c,hc,rfl⟩:=List.mem_map.1 he;rw[iU,h.len c hc]
 ·obtain⟨c,hc,rfl⟩:=List.mem_map.1 he;rw[IZ _ _ _ (by rw[h.len c hc]; exact hi),hs c hc]
theorem OX{r:Rule}{c:List Int}(hp:oW c.length r)(hx:r.ex.Nodup)(h0: ∀ j,0<=c.getD j 0):Even c.length (tZ r c) :=
 (abR hp hx h0).add (by have:=hp.src; omega)
theorem OY: ∀ {a b:List Int},nI a b=true->a.sum<=b.sum/\(a.sum=b.sum->a=b):=by
 intro a;induction a with
 |nil =>
  intro b h;cases b with
  |nil=>exact⟨Int.le_refl _,fun _=>rfl⟩
  |cons y b=>simp[nI] at h
 |cons x a ih =>
  intro b h;cases b with
  |nil=>simp[nI] at h
  |cons y b =>
   simp only[nI,Bool.and_eq_true,decide_eq_true_eq] at h;obtain⟨h1,h2⟩:=ih h.2;rw[List.sum_cons,List.sum_cons];refine⟨by omega,fun e=>?_⟩;have hs:a.sum=b.sum:=by omega
   have hx:x=y:=by omega
   rw[hx,h2 hs]
theorem XC: ∀ {l u:List Elem},l.Nodup->(∀ x∈l,x∈u)->l.length<=u.length:=by
 intro l;induction l with
 |nil=>intro u _ _; exact Nat.zero_le _
 |cons a l ih =>
  intro u hn hs;obtain⟨h1,h2⟩:=List.nodup_cons.1 hn;have ha:=hs a (by simp);have:=ih (u:=u.erase a) h2 fun x hx=>(List.mem_erase_of_ne (by rintro rfl; exact h1 hx)).2 (hs x (List.mem_cons_of_mem _ hx))
  rw[List.length_erase_of_mem ha] at this;have:=List.length_pos_of_mem ha;rw[List.length_cons]; omega
theorem Zo{l:List Elem}(h:SS l):l.Nodup:=by
 unfold SS at h;refine h.imp fun {a b} hab e=>?_
 have h0:gV a b=0:=by rw[jK]; exact e
 omega
theorem TK{l:List Elem}(ha: ∀ x∈l,∀ y∈l,kK y x=true->y=x):aK l=rH l:=by
 unfold aK;rw[List.filter_eq_self.2 fun x hx=>?_];unfold vS;rw[Bool.not_eq_true',List.any_eq_false];intro y hy h;obtain⟨h1,h2⟩:=nO.1 h;exact h2 (ha x hx y hy h1)
theorem TM{l:List Elem}(hn:l.Nodup):(rH l).length=l.length :=
 Nat.le_antisymm (XC (Zo (KN l)) fun x hx=>(wz l x).1 hx) (XC hn fun x hx=>(wz l x).2 hx)
theorem J9{p:aI}{r:Rule}{e x:Elem}:x∈pI p r e↔x.value∈kL p r e.value/\x.counts∈tZ r e.counts:=by
 unfold pI;rw[List.mem_flatMap];constructor
 ·rintro⟨v,hv,hx⟩;obtain⟨c,hc,rfl⟩:=List.mem_map.1 hx;exact⟨hv,hc⟩
 ·rintro⟨hv,hc⟩;exact⟨_,hv,List.mem_map.2 ⟨_,hc,rfl⟩⟩
theorem Zp{p:aI}{r:Rule}{e:Elem}(h:(tZ r e.counts).Nodup):(pI p r e).Nodup:=by
 unfold pI;refine List.pairwise_flatMap.2 ⟨fun v _=>?_,?_⟩
 ·rw[List.pairwise_map];exact h.imp fun {a b} hne q=>hne (congrArg Elem.counts q)
 ·refine(OU (p:=p) (r:=r) (v:=e.value)).imp fun {v u} hne x hx y hy q=>hne ?_
  obtain⟨c,_,rfl⟩:=List.mem_map.1 hx;obtain⟨d,_,rfl⟩:=List.mem_map.1 hy;exact congrArg Elem.value q
theorem XD{p:aI}{r:Rule}{e:Elem}(hp:oW e.counts.length r)(hx:r.ex.Nodup)(h0: ∀ j,0<=e.counts.getD j 0):aK (pI p r e)=rH (pI p r e)/\(aK (pI p r e)).length=(pI p r e).length:=by
 have hc:=OX hp hx h0;have h:aK (pI p r e)=rH (pI p r e):=by
  refine TK fun x hx y hy hle=>?_
  obtain⟨s,hs⟩:=hc.sum;have e1:=hs _ (J9.1 hx).2;have e2:=hs _ (J9.1 hy).2;unfold kK at hle;rw[Bool.and_eq_true,beq_iff_eq] at hle;have:=(OY hle.2).2 (by rw[e1,e2]);cases x; cases y;simp only at hle this;rw[hle.1,this]
 exact⟨h,by rw[h,TM (Zp hc.nd)]⟩
theorem XE{p:aI}{r:Rule}{e:Elem}:(pI p r e).length=(tZ r e.counts).length*(kL p r e.value).length:=by
 unfold pI;generalize kL p r e.value=l;induction l with
 |nil=>rfl
 |cons v l ih=>rw[List.flatMap_cons,List.length_append,ih,List.length_map,List.length_cons,Nat.mul_succ,Nat.add_comm]
theorem MI(c:List Int)(i:Int)(j:Nat):(cO c i).getD j 0=if j=i.toNat/\j<c.length then max (c.getD j 0-1) 0 else c.getD j 0:=by
 unfold cO;generalize i.toNat=a;by_cases h:j=a
 ·subst h;by_cases hl:j<c.length
  ·rw[if_pos ⟨rfl,hl⟩]; simp[hl]
  ·rw[if_neg (fun q=>hl q.2),List.set_eq_of_length_le (by omega)]
 ·rw[if_neg (fun q=>h q.1),List.getD_eq_getElem?_getD,List.getElem?_set_ne (Ne.symm h),<- List.getD_eq_getElem?_getD]
def Di(r:Rule)(x:Nat):Int:=(if(x:Int)=r.fr then 1 else 0)+(if r.kind=2/\(x:Int)=r.jh then 1 else 0)
def Js(r:Rule)(x:Nat):Int:=(if(x:Int)=r.to then 1 else 0)+(if r.kind=2/\(x:Int)=r.zV then 1 else 0)
def jZ(r:Rule)(c:List Int):List Int:=(List.range c.length).map fun x:Nat=>max (Di r x) (c.getD x 0-Js r x+Di r x)
theorem TN{l l':List Int}(h:l.length=l'.length)(H: ∀ i,i<l.length->l.getD i 0=l'.getD i 0):l=l':=by
 apply List.ext_getElem h;intro i h1 h2;have:=H i h1;simpa [h1,h2] using this
theorem TP{r:Rule}{c:List Int}{j:Nat}(h:j<c.length):(jZ r c).getD j 0=max (Di r j) (c.getD j 0-Js r j+Di r j):=by simp[jZ,h]
theorem Dj{r:Rule}{c:List Int}:(jZ r c).length=c.length:=by simp[jZ]
theorem E9{r:Rule}{c:List Int}(hp:oW c.length r)(h0: ∀ j,0<=c.getD j 0)(hk:r.kind≠2):jZ r c=aT (cO c r.to) r.fr 1:=by
 refine TN (by rw[Dj,iU,dO]) fun j hj=>?_
 rw[Dj] at hj;have:=h0 j;have ea:((j:Int)=r.fr)=(j=r.fr.toNat):=propext (by have:=hp.src; omega);have eb:((j:Int)=r.to)=(j=r.to.toNat):=propext (by have:=hp.dst; omega);rw[TP hj,nG,MI,dO];unfold Di Js;rcases Classical.propComplete (j=r.fr.toNat) with ta|ta<;>rcases Classical.propComplete (j=r.to.toNat) with tb|tb <;>
 ·simp only[ea,eb,ta,tb,eq_true hj,eq_false hk,true_and,false_and,if_true,if_false];omega
theorem Zq{r:Rule}{c:List Int}(hp:oW c.length r)(h0: ∀ j,0<=c.getD j 0)(hk:r.kind=2):jZ r c=aT (aT (cO (cO c r.to) r.zV) r.jh 1) r.fr 1:=by
 refine TN (by rw[Dj,iU,iU,dO,dO]) fun j hj=>?_
 rw[Dj] at hj;have:=h0 j;have ea:((j:Int)=r.fr)=(j=r.fr.toNat):=propext (by have:=hp.src; omega);have eb:((j:Int)=r.to)=(j=r.to.toNat):=propext (by have:=hp.dst; omega);have ec:((j:Int)=r.jh)=(j=r.jh.toNat):=propext (by have:=hp.agD; omega);have ed:((j:Int)=r.zV)=(j=r.zV.toNat):=propext (by have:=hp.agE; omega);rw[TP hj,nG,nG,MI,MI,iU,dO,dO];unfold Di Js;rcases Classical.propComplete (j=r.fr.toNat) with ta|ta<;>rcases Classical.propComplete (j=r.to.toNat) with tb|tb<;>rcases Classical.propComplete (j=r.jh.toNat) with tc|tc<;>rcases Classical.propComplete (j=r.zV.toNat) with td|td <;>
 ·simp only[ea,eb,ec,ed,ta,tb,tc,td,eq_true hj,eq_true hk,true_and,false_and,and_self,if_true,if_false];omega
def cntF(r:Rule)(c:List Int):List (List Int) :=
 bif r.kind==1 then(bif qV r (cO c r.to) then [jZ r c] else r.ex.map fun x=>aT (jZ r c) x 1) else
 bif r.kind==2 then [jZ r c] else
 bif r.kind==3 then(bif mD r.response (cO c r.to) then [] else lF r.response (cO c r.to) [aT (List.replicate c.length 0) r.fr 1] c.length) else [jZ r c]
theorem aeh{r:Rule}{c:List Int}(hp:oW c.length r)(h0: ∀ j,0<=c.getD j 0):cntF r c=tZ r c:=by
 unfold cntF tZ zJ;simp only;cases hk1:(r.kind==1) with
 |true =>
  have hb:=E9 hp h0 (by have:r.kind=1:=(by simpa using hk1); omega);rw[hb];cases qV r (cO c r.to) with
  |true=>rfl
  |false =>
   show r.ex.map _=(r.ex.map _).map _;rw[List.map_map];refine List.map_congr_left fun x _=>?_
   exact MH _ _ _ _ _
 |false =>
  cases hk2:(r.kind==2) with
  |true =>
   rw[Zq hp h0 (by simpa using hk2)]; rfl
  |false =>
   have hb:=E9 hp h0 (by simpa using hk2);cases hk3:(r.kind==3) with
   |false=>rw[hb]; rfl
   |true =>
    cases mD r.response (cO c r.to) with
    |true=>rfl
    |false =>
     show lF _ _ [aT (List.replicate c.length 0) r.fr 1] c.length=(lF _ _ _ _).map _;rw[<- XA,dO]; rfl
theorem Au{resp need:List Int}(h:mD resp need=false)(h0: ∀ j,0<=need.getD j 0)(t:Nat)(hn:need.getD t 0≠0):iq resp t≠[]:=by
 have ht:t<need.length:=by
  rcases Nat.lt_or_ge t need.length with q|q
  ·exact q
  ·exact absurd (by simp[List.getD_eq_getElem?_getD,List.getElem?_eq_none q]) hn
 unfold mD at h;rw[List.any_eq_false] at h;have:=h t (List.mem_range.2 ht);have hp:0<need.getD t 0:=by have:=h0 t; omega
 rw[decide_eq_true hp,Bool.true_and,Bool.not_eq_true',Bool.not_eq_false] at this;have hm:=JJ.1 this;obtain⟨k,hk,he⟩:=List.getElem_of_mem hm;exact List.ne_nil_of_mem (wO.2 ⟨k,hk,by simp[hk,he],rfl⟩)
def Ef(m:Nat)(resp need:List Int)(out:List (List Int))(n:Nat):List (List Int):=(List.range n).foldl (fun o t=>(yt resp need o t).take m) out
theorem I4{m:Nat}{resp need:List Int}{out:List (List Int)}{n:Nat}:Ef m resp need out (n+1)=(yt resp need (Ef m resp need out n) n).take m:=by
 unfold Ef;rw[List.range_succ,List.foldl_append]; rfl
theorem Ko{m:Nat}{resp need:List Int}{out:List (List Int)}(ho:out.length<=m)(h: ∀ t,need.getD t 0≠0->iq resp t≠[]): ∀ n,Ef m resp need out n=(lF resp need out n).take m:=by
 intro n;induction n with
 |zero=>exact(List.take_of_length_le ho).symm
 |succ n ih=>rw[I4,uI,ih,aef (h n)]
theorem TQ{resp need:List Int}{out:List (List Int)}(h: ∀ t,need.getD t 0≠0->iq resp t≠[]){n:Nat}: ∀ k,(lF resp need out n).length<=(lF resp need out (n+k)).length:=by
 intro k;induction k with
 |zero=>exact Nat.le_refl _
 |succ k ih =>
  rw[<- Nat.add_assoc,uI];exact Nat.le_trans ih (abP (h _))
theorem aei{resp need:List Int}{out:List (List Int)}{t:Nat}(h:need.getD t 0≠0):(yt resp need out t).length=out.length*(kN (iq resp t).length (need.getD t 0).toNat).length:=by
 unfold yt;rw[show(need.getD t 0==0)=false from by simpa using h];show(out.flatMap _).length=_;induction out with
 |nil=>simp
 |cons c out ih =>
  rw[List.flatMap_cons,List.length_append,ih,wu,List.length_map,List.length_cons,Nat.succ_mul,Nat.add_comm]
theorem abS{k n f:Nat}(hf:f<=n):(kN (k+1) (n-f)).length<=(kN (k+2) n).length:=by
 have hm:f∈List.range (n+1):=List.mem_range.2 (by omega);show _<=((List.range (n+1)).flatMap fun f=>(kN (k+1) (n-f)).map fun t=>(f:Int)::t).length;obtain⟨a,b,e⟩:=List.append_of_mem hm;rw[e,List.flatMap_append,List.flatMap_cons,List.length_append,List.length_append,List.length_map];omega
def rW(k n i:Nat):List (List Int):=(List.range i).flatMap fun f=>(kN (k+1) (n-f)).map fun t=>(f:Int)::t
theorem I5{k n i:Nat}:rW k n (i+1)=rW k n i++(kN (k+1) (n-i)).map fun t=>(i:Int)::t:=by
 unfold rW;rw[List.range_succ,List.flatMap_append]; simp
theorem TR{k n:Nat}:rW k n (n+1)=kN (k+2) n:=rfl
theorem Zr{k n i:Nat}: ∀ j,(rW k n i).length<=(rW k n (i+j)).length:=by
 intro j;induction j with
 |zero=>exact Nat.le_refl _
 |succ j ih=>rw[<- Nat.add_assoc,I5,List.length_append]; omega
def pO(p:aI)(r:Rule)(e:Elem):Int×List Elem:=bif decide (100<(pI p r e).length)||(pI p r e).any (fun x=> !(x.counts.all AU)) then(4,[]) else(0,aK (pI p r e))
def Dk(r:Rule)(c:List Int):List (List Int) :=
 bif r.kind==3 then(bif mD r.response (cO c r.to) then [] else Ef 101 r.response (cO c r.to) [aT (List.replicate c.length 0) r.fr 1] c.length) else cntF r c
theorem XF{r:Rule}{c:List Int}(hp:oW c.length r)(h0: ∀ j,0<=c.getD j 0):Dk r c=tZ r c\/r.kind=3/\Dk r c=(tZ r c).take 101:=by
 have hc:=aeh hp h0;rw[<- hc];unfold Dk;cases hk:(r.kind==3) with
 |false=>exact .inl rfl
 |true =>
  have hk3:r.kind=3:=by simpa using hk
  right;refine⟨hk3,?_⟩;unfold cntF;rw[show(r.kind==1)=false by simp[hk3],show(r.kind==2)=false by simp[hk3],hk];cases hs:mD r.response (cO c r.to) with
  |true=>rfl
  |false=>exact Ko (show 1<=101 by decide) (Au hs (Dh h0)) _
def NJ(p:aI)(r:Rule)(e:Elem):List Elem:=(kL p r e.value).flatMap fun v=>(Dk r e.counts).map fun c=>⟨v,c⟩
def V5(p:aI)(r:Rule)(e:Elem):Int×List Elem:=bif decide (100<(aK (NJ p r e)).length)||(aK (NJ p r e)).any (lH p) then(4,[]) else(0,aK (NJ p r e))
theorem XG{p:aI}{r:Rule}{e:Elem}(hp:oW e.counts.length r)(hx:r.ex.Nodup)(h0: ∀ j,0<=e.counts.getD j 0){x:Elem}:x∈aK (pI p r e)↔x∈pI p r e:=by
 rw[(XD hp hx h0).1,wz]
theorem TS{vs:List Int}{cs:List (List Int)}{x:Elem}:x∈(vs.flatMap fun v=>cs.map fun c=>(⟨v,c⟩:Elem))↔x.value∈vs/\x.counts∈cs:=by
 rw[List.mem_flatMap];constructor
 ·rintro⟨v,hv,hx⟩;obtain⟨c,hc,rfl⟩:=List.mem_map.1 hx;exact⟨hv,hc⟩
 ·rintro⟨hv,hc⟩;exact⟨_,hv,List.mem_map.2 ⟨_,hc,rfl⟩⟩
theorem abT{vs:List Int}{cs:List (List Int)}:(vs.flatMap fun v=>cs.map fun c=>(⟨v,c⟩:Elem)).length=cs.length*vs.length:=by
 induction vs with
 |nil=>rfl
 |cons v l ih=>rw[List.flatMap_cons,List.length_append,ih,List.length_map,List.length_cons,Nat.mul_succ,Nat.add_comm]
theorem abU{n:Nat}{vs:List Int}{cs:List (List Int)}(hv:vs.Nodup)(hc:Even n cs):aK (vs.flatMap fun v=>cs.map fun c=>(⟨v,c⟩:Elem))=rH (vs.flatMap fun v=>cs.map fun c=>(⟨v,c⟩:Elem))/\(aK (vs.flatMap fun v=>cs.map fun c=>(⟨v,c⟩:Elem))).length=cs.length*vs.length:=by
 have hn:(vs.flatMap fun v=>cs.map fun c=>(⟨v,c⟩:Elem)).Nodup:=by
  refine List.pairwise_flatMap.2 ⟨fun v _=>?_,?_⟩
  ·rw[List.pairwise_map];exact hc.nd.imp fun {a b} hne q=>hne (congrArg Elem.counts q)
  ·refine hv.imp fun {v u} hne x hx y hy q=>hne ?_
   obtain⟨c,_,rfl⟩:=List.mem_map.1 hx;obtain⟨d,_,rfl⟩:=List.mem_map.1 hy;exact congrArg Elem.value q
 have h:aK (vs.flatMap fun v=>cs.map fun c=>(⟨v,c⟩:Elem))=rH (vs.flatMap fun v=>cs.map fun c=>(⟨v,c⟩:Elem)):=by
  refine TK fun x hx y hy hle=>?_
  obtain⟨s,hs⟩:=hc.sum;have e1:=hs _ (TS.1 hx).2;have e2:=hs _ (TS.1 hy).2;unfold kK at hle;rw[Bool.and_eq_true,beq_iff_eq] at hle;have:=(OY hle.2).2 (by rw[e1,e2]);cases x; cases y;simp only at hle this;rw[hle.1,this]
 exact⟨h,by rw[h,TM hn,abT]⟩
theorem Even.take{n m:Nat}{l:List (List Int)}(h:Even n l):Even n (l.take m):=by
 obtain⟨s,hs⟩:=h.sum;exact⟨h.nd.sublist (List.take_sublist m l),fun c hc=>h.len c (List.mem_of_mem_take hc),s,fun c hc=>hs c (List.mem_of_mem_take hc)⟩
theorem aej{p:aI}{r:Rule}{e:Elem}(hp:oW e.counts.length r)(hx:r.ex.Nodup)(h0: ∀ j,0<=e.counts.getD j 0)(hl:e.counts.length=p.states.length)(hv: ∀ v∈kL p r e.value,0<=v/\v<max 1 (p.values.length:Int)):V5 p r e=pO p r e:=by
 have hE:=OX hp hx h0;have same:NJ p r e=pI p r e->V5 p r e=pO p r e:=fun q=>by
  unfold V5 pO;rw[q,(XD hp hx h0).2]
  have:(aK (pI p r e)).any (lH p)=(pI p r e).any fun x=> !(x.counts.all AU):=by
   have aho: ∀ x∈pI p r e,lH p x= !(x.counts.all AU):=fun x hx=>by
    obtain⟨h1,h2⟩:=J9.1 hx;have hlen:=hE.len _ h2;have hval:=hv _ h1;unfold lH;rw[show((x.counts.length:Int) !=p.states.length)=false by simp; omega,show decide (x.value<0)=false by simp; omega,show decide (x.value>=max 1 (p.values.length:Int))=false by simp only[decide_eq_false_iff_not]; omega];simp
   rw[Bool.eq_iff_iff,List.any_eq_true,List.any_eq_true];constructor
   ·rintro⟨x,h1,h2⟩;have h1:=(XG hp hx h0).1 h1;exact⟨x,h1,by rw[<- aho x h1]; exact h2⟩
   ·rintro⟨x,h1,h2⟩;exact⟨x,(XG hp hx h0).2 h1,by rw[aho x h1]; exact h2⟩
  rw[this]
 rcases XF hp h0 with h|⟨_,h⟩
 ·exact same (by unfold NJ pI; rw[h])
 ·rcases Nat.lt_or_ge 101 (tZ r e.counts).length with hc|hc
  ·cases hvs:kL p r e.value with
   |nil=>exact same (by unfold NJ pI; rw[hvs]; rfl)
   |cons v vs =>
    have h1:100<(aK (NJ p r e)).length:=by
     unfold NJ;rw[h,(abU OU hE.take).2,hvs,List.length_take,List.length_cons,Nat.mul_succ]; omega
    have h2:100<(pI p r e).length:=by
     rw[XE,hvs,List.length_cons,Nat.mul_succ]; omega
    unfold V5 pO;rw[decide_eq_true h1,decide_eq_true h2]; rfl
  ·exact same (by unfold NJ pI; rw[h,List.take_of_length_le hc])
def aek(p:aI)(r:Rule)(e:Elem):Int×List Elem :=
 bif (kL p r e.value).length==0 then(0,[]) else bif decide (100<(tZ r e.counts).length)||decide (100<(tZ r e.counts).length*(kL p r e.value).length) then(4,[]) else
 bif (pI p r e).any (fun x=> !(x.counts.all AU)) then(4,[]) else(0,aK (pI p r e))
theorem V6:aK []=[]:=by
 have h: ∀ x,x ∉ aK []:=fun x hx=>by
  unfold aK at hx;rw[wz] at hx;simp at hx
 exact List.eq_nil_iff_forall_not_mem.2 h
theorem ael{p:aI}{r:Rule}{e:Elem}:aek p r e=pO p r e:=by
 unfold aek pO;rw[XE];cases hv:((kL p r e.value).length==0) with
 |true =>
  have h0:kL p r e.value=[]:=by simpa using hv
  have hz:pI p r e=[]:=by unfold pI; rw[h0]; rfl
  rw[hz,h0,V6]; rfl
 |false =>
  have h0:(kL p r e.value).length≠0:=by simpa using hv
  have hm:(tZ r e.counts).length<=(tZ r e.counts).length*(kL p r e.value).length:=Nat.le_mul_of_pos_right _ (Nat.pos_of_ne_zero h0);have e1:(decide (100<(tZ r e.counts).length)||decide (100<(tZ r e.counts).length*(kL p r e.value).length))=decide (100<(tZ r e.counts).length*(kL p r e.value).length):=by
   rw[Bool.eq_iff_iff,Bool.or_eq_true,decide_eq_true_eq,decide_eq_true_eq];omega
  show(bif _||_ then _ else _)=_;rw[e1];cases decide (100<(tZ r e.counts).length*(kL p r e.value).length)<;>rfl
theorem aem{resp need:List Int}{out:List (List Int)}(h: ∀ t,need.getD t 0≠0->iq resp t≠[]){t n:Nat}(ht:t<=n)(hb:100<(lF resp need out t).length):100<(lF resp need out n).length:=by
 obtain⟨k,rfl⟩:=Nat.exists_eq_add_of_le ht;exact Nat.lt_of_lt_of_le hb (TQ h k)
def divO(k n:Nat):Option (List (List Int)):=if(kN k n).length<=100 then some (kN k n) else none
theorem Zt{k n f:Nat}(hf:f<=n)(h:divO (k+1) (n-f)=none):divO (k+2) n=none:=by
 unfold divO at h ⊢;have:=abS (k:=k) hf;split at h
 ·cases h
 ·rw[if_neg (by omega)]
theorem abV{k n i:Nat}(hi:i<=n+1)(h:100<(rW k n i).length):divO (k+2) n=none:=by
 unfold divO;obtain⟨j,hj⟩:=Nat.exists_eq_add_of_le hi;have:=Zr (k:=k) (n:=n) (i:=i) j;rw[<- hj,TR] at this;rw[if_neg (by omega)]
end Go.Proofs.YtkmldgihhaooaaaGreatDoor
