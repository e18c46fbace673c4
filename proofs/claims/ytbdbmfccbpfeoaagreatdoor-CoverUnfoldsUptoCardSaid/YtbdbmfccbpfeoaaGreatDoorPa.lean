/-
 All ways to divide a number among places: plain laws. No condition.
-/
import Derived.Test.YtbdbmfccbpfeoaaGreatDoorFa
import Derived.Test.YtbdbmfccbpfeoaaGreatDoorKa
import Derived.Test.YtbdbmfccbpfeoaaGreatDoorRb
namespace Go.Proofs.YtbdbmfccbpfeoaaGreatDoor
open Go.Ab Go.Proofs
set_option maxRecDepth 100000
def kK:Nat->Nat->List (List Int)
 |0,_=>[]
 |1,n=>[[(n:Int)]]
 |k+2,n=>(List.range (n+1)).flatMap fun f=>(kK (k+1) (n-f)).map fun t=>(f:Int)::t
def qy:List Int->List Int->List Int->List Int
 |c,x::xs,k::ks=>qy (aZ c x k) xs ks
 |c,_,_=>c
def acH:List Int->List Int->Nat->List (List Int)
 |_,[],_=>[]
 |c,[x],n=>[aZ c x n]
 |c,x::y::r,n=>(List.range (n+1)).flatMap fun k:Nat=>acH (aZ c x k) (y::r) (n-k)
theorem Ew: ∀ {l:List Int} {c:List Int} {n:Nat},acH c l n=(kK l.length n).map (qy c l):=by
 intro l;induction l with
 |nil=>intro c n; rfl
 |cons x r ih =>
  intro c n;cases r with
  |nil=>rfl
  |cons y r =>
   show((List.range (n+1)).flatMap fun k:Nat=>acH (aZ c x k) (y::r) (n-k))=((List.range (n+1)).flatMap fun f=>(kK (r.length+1) (n-f)).map fun t=>(f:Int)::t).map (qy c (x::y::r));rw[List.map_flatMap]
   congr 1
   funext k;rw[ih,cp];rfl
theorem div_pos: ∀ {k n:Nat},0<k->kK k n≠[]:=by
 intro k;induction k with
 |zero=>intro n h; exact absurd h (gN _)
 |succ k ih =>
  intro n _;cases k with
  |zero=>simp[kK]
  |succ k =>
   intro h;simp only[kK,List.flatMap_eq_nil_iff,List.map_eq_nil_iff] at h;exact ih (n:=n-0) (Nat.succ_pos _) (h 0 (by simp))
theorem Ic: ∀ {k n:Nat} {s:List Int},s∈kK k n->s.length=k:=by
 intro k;induction k with
 |zero=>intro n s h; cases h
 |succ k ih =>
  intro n s h;cases k with
  |zero=>simp only[kK,bt] at h; subst h; rfl
  |succ k =>
   simp only[kK,ck,bA] at h;obtain⟨f,_,t,ht,rfl⟩:=h;rw[bN,ih ht]
theorem QY: ∀ {k n:Nat} {s:List Int},s∈kK k n->s.sum=n/\ ∀ x∈s,0<=x:=by
 intro k;induction k with
 |zero=>intro n s h; cases h
 |succ k ih =>
  intro n s h;cases k with
  |zero =>
   simp only[kK,bt] at h; subst h;exact⟨by simp,fun x hx=>by simp at hx; omega⟩
  |succ k =>
   simp only[kK,ck,bA,cL] at h;obtain⟨f,hf,t,ht,rfl⟩:=h;obtain⟨h1,h2⟩:=ih ht;refine⟨by rw[fI,h1]; omega,fun x hx=>?_⟩;rcases bm.1 hx with rfl|hx
   ·omega
   ·exact h2 x hx
theorem aag: ∀ {k n:Nat},(kK k n).Nodup:=by
 intro k;induction k with
 |zero=>intro n; exact List.nodup_nil
 |succ k ih =>
  intro n;cases k with
  |zero=>simp[kK]
  |succ k =>
   simp only[kK];refine List.pairwise_flatMap.2 ⟨fun f _=>?_,?_⟩
   ·exact List.Pairwise.map _ (fun a b h q=>h (List.cons.inj q).2) ih
   ·refine List.Pairwise.imp ?_ List.nodup_range;intro a b hab s h1 u h2 e;rw[bA] at h1 h2;obtain⟨t,_,rfl⟩:=h1;obtain⟨v,_,rfl⟩:=h2;have:=(List.cons.inj e).1;exact hab (by omega)
theorem acI{α β:Type}{f:α->List β}: ∀ {l:List α},(∀ x∈l,f x≠[])->l.length<=(l.flatMap f).length:=by
 intro l;induction l with
 |nil=>intro _; exact ap _
 |cons x r ih =>
  intro h;have h1:0<(f x).length:=List.length_pos_iff.2 (h x (by simp));have h2:=ih fun y hy=>h y (by simp[hy])
  rw[en,aL,bN]; omega
def oW(resp:List Int)(t:Nat):List Int:=((List.range resp.length).filter fun x=>resp.getD x 0==(t:Int)).map fun x:Nat=>(x:Int)
def JW(resp need:List Int)(out:List (List Int))(t:Nat):List (List Int):=bif need.getD t 0==0 then out else out.flatMap fun c=>acH c (oW resp t) (need.getD t 0).toNat
def qA(resp need:List Int)(out:List (List Int))(n:Nat):List (List Int):=(List.range n).foldl (JW resp need) out
theorem Ey{resp need:List Int}{out:List (List Int)}{n:Nat}:qA resp need out (n+1)=JW resp need (qA resp need out n) n:=by
 unfold qA;rw[ce,eJ]; rfl
theorem acJ{resp need:List Int}{out:List (List Int)}{t:Nat}(h:need.getD t 0≠0->oW resp t≠[]):out.length<=(JW resp need out t).length:=by
 unfold JW;cases hb:(need.getD t 0==0) with
 |true=>exact bO _
 |false =>
  have hf:=h (by simpa using hb);refine acI fun c _=>?_
  rw[Ew];intro e;rw[List.map_eq_nil_iff] at e;exact div_pos (List.length_pos_iff.2 hf) e
theorem uZ(c:List Int)(i d:Int):(aZ c i d).length=c.length:=by simp[aZ]
theorem BH(c:List Int)(i d:Int)(j:Nat):(aZ c i d).getD j 0=if j=i.toNat/\j<c.length then c.getD j 0+d else c.getD j 0:=by
 unfold aZ;generalize i.toNat=a;by_cases h:j=a
 ·subst h;by_cases hl:j<c.length
  ·rw[ba ⟨rfl,hl⟩]; simp[hl]
  ·rw[av (fun q=>hl q.2),List.set_eq_of_length_le (by omega)]
 ·rw[av (fun q=>h q.1),ag,dy (Ne.symm h),<- ag]
theorem aah: ∀ (c:List Int) (i d:Int),i.toNat<c.length->(aZ c i d).sum=c.sum+d:=by
 intro c i d;unfold aZ;generalize i.toNat=a;induction c generalizing a with
 |nil=>intro h; exact absurd h (Nat.not_lt_zero _)
 |cons x r ih =>
  intro h;cases a with
  |zero=>simp only[eO,fI,List.getD_cons_zero]; omega
  |succ a =>
   have:=ih a (by simpa using h);simp only[List.set_cons_succ,fI,List.getD_cons_succ]; omega
theorem Uk: ∀ {xs ks:List Int} {c:List Int},(qy c xs ks).length=c.length:=by
 intro xs;induction xs with
 |nil=>intro ks c; rfl
 |cons x xs ih =>
  intro ks c;cases ks with
  |nil=>rfl
  |cons k ks=>show(qy (aZ c x k) xs ks).length=_; rw[ih,uZ]
theorem DR: ∀ {xs ks:List Int} {c:List Int} {j:Nat},(∀ x∈xs,x.toNat≠j)->(qy c xs ks).getD j 0=c.getD j 0:=by
 intro xs;induction xs with
 |nil=>intro ks c j _; rfl
 |cons x xs ih =>
  intro ks c j h;cases ks with
  |nil=>rfl
  |cons k ks =>
   show(qy (aZ c x k) xs ks).getD j 0=_;rw[ih fun y hy=>h y (by simp[hy]),BH,av fun q=>h x (by simp) q.1.symm]
theorem acK: ∀ {xs ks:List Int} {c:List Int},xs.length=ks.length->(∀ x∈xs,x.toNat<c.length)->(qy c xs ks).sum=c.sum+ks.sum:=by
 intro xs;induction xs with
 |nil =>
  intro ks c h _;cases ks with
  |nil=>show c.sum=c.sum+0; omega
  |cons k ks=>simp at h
 |cons x xs ih =>
  intro ks c h hx;cases ks with
  |nil=>simp at h
  |cons k ks =>
   show(qy (aZ c x k) xs ks).sum=_;rw[ih (by simpa using h) fun y hy=>by rw[uZ]; exact hx y (by simp[hy]),aah c x k (hx x (by simp)),fI]; omega
def Dst(xs:List Int):Prop:=xs.Pairwise fun a b=>a.toNat≠b.toNat
theorem Ul: ∀ {xs ks ks':List Int} {c:List Int},Dst xs->(∀ x∈xs,x.toNat<c.length)->xs.length=ks.length->xs.length=ks'.length->qy c xs ks=qy c xs ks'->ks=ks':=by
 intro xs;induction xs with
 |nil =>
  intro ks ks' c _ _ h1 h2 _;rw[fp.1 h1.symm,fp.1 h2.symm]
 |cons x xs ih =>
  intro ks ks' c hd hx h1 h2 e;cases ks with
  |nil=>simp at h1
  |cons k ks =>
   cases ks' with
   |nil=>simp at h2
   |cons k' ks' =>
    have hd':=dT.1 hd;have hne: ∀ y∈xs,y.toNat≠x.toNat:=fun y hy=>Ne.symm (hd'.1 y hy)
    have hl:=hx x (by simp);have e:qy (aZ c x k) xs ks=qy (aZ c x k') xs ks':=e;have e1:=eK (fun l=>l.getD x.toNat 0) e;rw[DR hne,DR hne,BH,BH,ba ⟨rfl,hl⟩,ba ⟨rfl,hl⟩] at e1;have hk:k=k':=by omega
    subst hk;rw[ih hd'.2 (fun y hy=>by rw[uZ]; exact hx y (by simp[hy])) (by simpa using h1) (by simpa using h2) e]
theorem aai{xs ks ks':List Int}{c c':List Int}(hd:Dst xs)(hx: ∀ x∈xs,x.toNat<c.length)(hl:c.length=c'.length)(h1:xs.length=ks.length)(h2:xs.length=ks'.length)(ha: ∀ x∈xs,c.getD x.toNat 0=c'.getD x.toNat 0)(e:qy c xs ks=qy c' xs ks'):c=c'/\ks=ks':=by
 have hc:c=c':=by
  apply eC hl;intro j j1 j2;by_cases hj: ∃ x∈xs,x.toNat=j
  ·obtain⟨x,hx1,rfl⟩:=hj;have:=ha x hx1;simpa [j1,j2] using this
  ·have hj': ∀ x∈xs,x.toNat≠j:=fun x hx1 q=>hj ⟨x,hx1,q⟩
   have:=eK (fun l=>l.getD j 0) e;rw[DR hj',DR hj'] at this;simpa [j1,j2] using this
 subst hc;exact⟨rfl,Ul hd hx h1 h2 e⟩
theorem PV{resp:List Int}{t:Nat}:Dst (oW resp t):=by
 unfold Dst oW;rw[List.pairwise_map];refine List.Pairwise.filter _ ?_;exact List.pairwise_lt_range.imp fun h=>by omega
theorem Ez{resp:List Int}{t:Nat}{x:Int}:x∈oW resp t↔ ∃ k:Nat,k<resp.length/\resp.getD k 0=(t:Int)/\x=k:=by
 unfold oW;rw[bA];constructor
 ·rintro⟨k,h,rfl⟩;obtain⟨h1,h2⟩:=eA.1 h;exact⟨k,cL.1 h1,by simpa using h2,rfl⟩
 ·rintro⟨k,h1,h2,rfl⟩;exact⟨k,eA.2 ⟨cL.2 h1,by simpa using h2⟩,rfl⟩
structure afa(resp need b:List Int)(n:Nat)(out:List (List Int)):Prop where
 nd:out.Nodup
 len: ∀ c∈out,c.length=resp.length
 old: ∀ c∈out,∀ j,j<resp.length->(n:Int)<=resp.getD j 0->c.getD j 0=b.getD j 0
 sum: ∀ c∈out,c.sum=b.sum+(need.take n).sum
theorem afa.next{resp need b:List Int}{n:Nat}{out:List (List Int)}(h:afa resp need b n out)(hn:n<need.length)(h0:0<=need.getD n 0):afa resp need b (n+1) (JW resp need out n):=by
 have hs:(need.take (n+1)).sum=(need.take n).sum+need.getD n 0:=by
  rw[cJ,bE hn,List.sum_append,show need.getD n 0=need[n] from by simp[hn]];simp
 unfold JW;cases hb:(need.getD n 0==0) with
 |true =>
  have hz:need.getD n 0=0:=by simpa using hb
  refine⟨h.nd,h.len,fun c hc j hj hr=>h.old c hc j hj (by omega),fun c hc=>?_⟩;rw[hs,hz,h.sum c hc]; omega
 |false =>
  have hin: ∀ c∈out,∀ x∈oW resp n,x.toNat<c.length:=fun c hc x hx=>by
   obtain⟨k,hk,_,rfl⟩:=Ez.1 hx;rw[h.len c hc,be]; exact hk
  have key: ∀ c∈out,∀ d∈acH c (oW resp n) (need.getD n 0).toNat,∃ s∈kK (oW resp n).length (need.getD n 0).toNat,d=qy c (oW resp n) s/\(oW resp n).length=s.length:=fun c _ d hd=>by
   rw[Ew,bA] at hd;obtain⟨s,hs,rfl⟩:=hd;exact⟨s,hs,rfl,(Ic hs).symm⟩
  refine⟨?_,fun d hd=>?_,fun d hd j hj hr=>?_,fun d hd=>?_⟩
  ·refine List.pairwise_flatMap.2 ⟨fun c hc=>?_,?_⟩
   ·rw[Ew];have hn:(kK (oW resp n).length (need.getD n 0).toNat).Nodup:=aag;rw[List.pairwise_map];refine hn.imp_of_mem fun {s u} hs hu hne e=>hne ?_
    exact Ul PV (hin c hc) (Ic hs).symm (Ic hu).symm e
   ·refine List.Pairwise.imp_of_mem (fun {c c'} hc hc' hne d hd d' hd' e=>?_) h.nd;obtain⟨s,_,rfl,l1⟩:=key c hc d hd;obtain⟨s',_,rfl,l2⟩:=key c' hc' d' hd';refine hne (aai PV (hin c hc) (by rw[h.len c hc,h.len c' hc']) l1 l2 (fun x hx=>?_) e).1;obtain⟨k,hk,hr,rfl⟩:=Ez.1 hx;rw[be,h.old c hc k hk (by omega),h.old c' hc' k hk (by omega)]
  ·obtain⟨c,hc,hd⟩:=ck.1 hd;obtain⟨s,_,rfl,_⟩:=key c hc d hd;rw[Uk,h.len c hc]
  ·obtain⟨c,hc,hd⟩:=ck.1 hd;obtain⟨s,_,rfl,_⟩:=key c hc d hd;rw[DR (fun x hx=>?_),h.old c hc j hj (by omega)];obtain⟨k,hk,hr',rfl⟩:=Ez.1 hx;rw[be];rintro rfl;omega
  ·obtain⟨c,hc,hd⟩:=ck.1 hd;obtain⟨s,hs',rfl,l1⟩:=key c hc d hd;rw[acK l1 (hin c hc),h.sum c hc,(QY hs').1,hs,Int.toNat_of_nonneg h0]; omega
theorem afb{resp need b:List Int}{n:Nat}(hb:b.length=resp.length)(hn:n<=need.length)(h0: ∀ i,0<=need.getD i 0):afa resp need b n (qA resp need [b] n):=by
 induction n with
 |zero =>
  refine⟨by simp[qA],fun c hc=>?_,fun c hc j _ _=>?_,fun c hc=>?_⟩ <;>
  ·have:c=b:=by simpa [qA] using hc
   subst this;first|exact hb|rfl|simp
 |succ n ih =>
  rw[Ey];exact(ih (by omega)).next (by omega) (h0 n)
def rG(p:aB)(r:Rule)(v:Int):List Int :=
 bif decide (0<=r.write)&&r.write !=v then [] else bif decide (r.write<0)&&(decide (0<=r.read)&&r.read !=v) then [] else
 bif decide (0<=r.read) then [r.read] else bif decide (r.write<0) then [v] else(List.range (max 1 p.values.length)).map fun x:Nat=>(x:Int)
def mg(c:List Int)(i:Int):List Int:=c.set i.toNat (max (c.getD i.toNat 0-1) 0)
def wM(resp need:List Int):Bool:=(List.range need.length).any fun t=>decide (0<need.getD t 0)&& !(Jv resp t)
def Fe(r:Rule)(c:List Int):List (List Int) :=
 let rest:=mg c r.to
 bif r.kind==1 then(bif qU r rest then [rest] else r.ex.map fun x=>aZ rest x 1) else
 bif r.kind==2 then [aZ (mg rest r.y7) r.dZ 1] else
 bif r.kind==3 then(bif wM r.response rest then [] else qA r.response rest [List.replicate rest.length 0] rest.length) else [rest]
def zH(r:Rule)(c:List Int):List (List Int):=(Fe r c).map fun l=>aZ l r.fr 1
def DT(p:aB)(r:Rule)(e:Elem):List Elem:=(rG p r e.value).flatMap fun v=>(zH r e.counts).map fun c=>⟨v,c⟩
theorem jR{c:List Int}{i:Int}:(mg c i).length=c.length:=by simp[mg]
structure Even(n:Nat)(l:List (List Int)):Prop where
 nd:l.Nodup
 len: ∀ c∈l,c.length=n
 sum: ∃ s:Int,∀ c∈l,c.sum=s
theorem afc{p:aB}{r:Rule}{e x:Elem}:x∈DT p r e↔x.value∈rG p r e.value/\x.counts∈zH r e.counts:=by
 unfold DT;rw[ck];constructor
 ·rintro⟨v,hv,hx⟩;obtain⟨c,hc,rfl⟩:=bA.1 hx;exact⟨hv,hc⟩
 ·rintro⟨hv,hc⟩;exact⟨_,hv,bA.2 ⟨_,hc,rfl⟩⟩
theorem afd{p:aB}{r:Rule}{e:Elem}:(DT p r e).length=(zH r e.counts).length*(rG p r e.value).length:=by
 unfold DT;generalize rG p r e.value=l;induction l with
 |nil=>rfl
 |cons v l ih=>rw[en,aL,ih,bh,bN,Nat.mul_succ,f5]
end Go.Proofs.YtbdbmfccbpfeoaaGreatDoor
namespace Go.Proofs.YtbdbmfccbpfeoaaGreatDoor
open Go.Ab Go.Proofs
set_option maxRecDepth 100000
theorem WX{resp need:List Int}(h:wM resp need=false)(h0: ∀ j,0<=need.getD j 0)(t:Nat)(hn:need.getD t 0≠0):oW resp t≠[]:=by
 have ht:t<need.length:=by
  rcases ee t need.length with q|q
  ·exact q
  ·exact absurd (by simp[List.getD_eq_getElem?_getD,List.getElem?_eq_none q]) hn
 unfold wM at h;rw[dv] at h;have:=h t (cL.2 ht);have hp:0<need.getD t 0:=by have:=h0 t; omega
 rw[cY hp,cj,bl,Bool.not_eq_false] at this;have hm:=adW.1 this;obtain⟨k,hk,he⟩:=de hm;exact List.ne_nil_of_mem (Ez.2 ⟨k,hk,by simp[hk,he],rfl⟩)
theorem Um{resp need:List Int}{out:List (List Int)}(h: ∀ t,need.getD t 0≠0->oW resp t≠[]){n:Nat}: ∀ k,(qA resp need out n).length<=(qA resp need out (n+k)).length:=by
 intro k;induction k with
 |zero=>exact bO _
 |succ k ih =>
  rw[<- gM,Ey];exact dg ih (acJ (h _))
theorem afe{resp need:List Int}{out:List (List Int)}{t:Nat}(h:need.getD t 0≠0):(JW resp need out t).length=out.length*(kK (oW resp t).length (need.getD t 0).toNat).length:=by
 unfold JW;rw[show(need.getD t 0==0)=false from by simpa using h];show(out.flatMap _).length=_;induction out with
 |nil=>simp
 |cons c out ih =>
  rw[en,aL,ih,Ew,bh,bN,eL,f5]
theorem acL{k n f:Nat}(hf:f<=n):(kK (k+1) (n-f)).length<=(kK (k+2) n).length:=by
 have hm:f∈List.range (n+1):=cL.2 (by omega);show _<=((List.range (n+1)).flatMap fun f=>(kK (k+1) (n-f)).map fun t=>(f:Int)::t).length;obtain⟨a,b,e⟩:=List.append_of_mem hm;rw[e,dc,en,aL,aL,bh];omega
def sK(k n i:Nat):List (List Int):=(List.range i).flatMap fun f=>(kK (k+1) (n-f)).map fun t=>(f:Int)::t
theorem Jk{k n i:Nat}:sK k n (i+1)=sK k n i++(kK (k+1) (n-i)).map fun t=>(i:Int)::t:=by
 unfold sK;rw[ce,dc]; simp
theorem Un{k n:Nat}:sK k n (n+1)=kK (k+2) n:=rfl
theorem aaj{k n i:Nat}: ∀ j,(sK k n i).length<=(sK k n (i+j)).length:=by
 intro j;induction j with
 |zero=>exact bO _
 |succ j ih=>rw[<- gM,Jk,aL]; omega
def zf(p:aB)(r:Rule)(e:Elem):Int×List Elem:=bif decide (100<(DT p r e).length)||(DT p r e).any (fun x=> !(x.counts.all EH)) then(4,[]) else(0,cO (DT p r e))
def aff(p:aB)(r:Rule)(e:Elem):Int×List Elem :=
 bif (rG p r e.value).length==0 then(0,[]) else bif decide (100<(zH r e.counts).length)||decide (100<(zH r e.counts).length*(rG p r e.value).length) then(4,[]) else
 bif (DT p r e).any (fun x=> !(x.counts.all EH)) then(4,[]) else(0,cO (DT p r e))
theorem WY:cO []=[]:=by
 have h: ∀ x,x ∉ cO []:=fun x hx=>by
  unfold cO at hx;rw[zQ] at hx;simp at hx
 exact List.eq_nil_iff_forall_not_mem.2 h
theorem afg{p:aB}{r:Rule}{e:Elem}:aff p r e=zf p r e:=by
 unfold aff zf;rw[afd];cases hv:((rG p r e.value).length==0) with
 |true =>
  have h0:rG p r e.value=[]:=by simpa using hv
  have hz:DT p r e=[]:=by unfold DT; rw[h0]; rfl
  rw[hz,h0,WY]; rfl
 |false =>
  have h0:(rG p r e.value).length≠0:=by simpa using hv
  have hm:(zH r e.counts).length<=(zH r e.counts).length*(rG p r e.value).length:=Nat.le_mul_of_pos_right _ (Nat.pos_of_ne_zero h0);have e1:(decide (100<(zH r e.counts).length)||decide (100<(zH r e.counts).length*(rG p r e.value).length))=decide (100<(zH r e.counts).length*(rG p r e.value).length):=by
   rw[cF,cS,ab,ab];omega
  show(bif _||_ then _ else _)=_;rw[e1];cases decide (100<(zH r e.counts).length*(rG p r e.value).length)<;>rfl
theorem afh{resp need:List Int}{out:List (List Int)}(h: ∀ t,need.getD t 0≠0->oW resp t≠[]){t n:Nat}(ht:t<=n)(hb:100<(qA resp need out t).length):100<(qA resp need out n).length:=by
 obtain⟨k,rfl⟩:=Nat.exists_eq_add_of_le ht;exact cR hb (Um h k)
def divO(k n:Nat):Option (List (List Int)):=if(kK k n).length<=100 then some (kK k n) else none
theorem aak{k n f:Nat}(hf:f<=n)(h:divO (k+1) (n-f)=none):divO (k+2) n=none:=by
 unfold divO at h ⊢;have:=acL (k:=k) hf;split at h
 ·cases h
 ·rw[av (by omega)]
theorem acM{k n i:Nat}(hi:i<=n+1)(h:100<(sK k n i).length):divO (k+2) n=none:=by
 unfold divO;obtain⟨j,hj⟩:=Nat.exists_eq_add_of_le hi;have:=aaj (k:=k) (n:=n) (i:=i) j;rw[<- hj,Un] at this;rw[av (by omega)]
end Go.Proofs.YtbdbmfccbpfeoaaGreatDoor
