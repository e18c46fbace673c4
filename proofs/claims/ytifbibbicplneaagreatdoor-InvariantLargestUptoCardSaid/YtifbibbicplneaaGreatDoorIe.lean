/-
 A part of the proof. No condition.
-/
import Derived.Test.YtifbibbicplneaaGreatDoorIb
import Derived.Test.YtifbibbicplneaaGreatDoorId
namespace Go.Proofs.YtifbibbicplneaaGreatDoor
open Go.Ab Go.Proofs
set_option maxRecDepth 100000
theorem G7{c:List Int}{i j:Nat}{v:Int}:(c.set i v).getD j 0=if i=j/\i<c.length then v else c.getD j 0:=by
 rw[List.getD_eq_getElem?_getD,List.getD_eq_getElem?_getD,List.getElem?_set]
 by_cases h:i=j
 ·subst h
  by_cases g:i<c.length
  ·simp[g]
  ·rw[if_pos rfl,if_neg g,if_neg (by rintro⟨_,q⟩; exact g q),List.getElem?_eq_none (by omega)]
 ·rw[if_neg h,if_neg (by rintro⟨q,_⟩; exact h q)]
theorem C9{m k:Int}{c d:List Int}(h:lS m c d)(hk:k<=m):lS k c d:=⟨h.1,fun i=>by have:=h.2 i; omega⟩
theorem Lp{m:Int}{c d:List Int}{i:Int}(hm:0<=m)(h:lS (m+1) c d)(hc:c.getD i.toNat 0≠0):lS m (aP c i) (aP d i):=by
 refine⟨by simp[aP,h.1],fun j=>?_⟩
 unfold aP
 rw[G7,G7,<- h.1]
 have h1:=h.2 i.toNat
 have h2:=h.2 j
 split<;>omega
theorem Fb{m:Int}{c d:List Int}{i x y:Int}(h:lS m c d)(hx:0<=x)(hy:0<=y)(hxy:min x m=min y m):lS m (fA c i x) (fA d i y):=by
 refine⟨by simp[fA,h.1],fun j=>?_⟩
 unfold fA
 rw[G7,G7,<- h.1]
 have h1:=h.2 i.toNat
 have h2:=h.2 j
 split<;>omega
theorem RX{r:Rule}{m:Int}{c d:List Int}(h:lS m c d): ∀ i,lS m (kE r c i) (kE r d i):=by
 intro i
 induction i with
 |zero =>
  have:kE r c 0=kE r d 0:=by simp only[kE]; rw[h.1]; rfl
  rw[this]
  refine⟨rfl,fun j=>?_⟩
  have:(kE r d 0).getD j 0=0:=by
   simp only[kE,List.range_zero,List.foldl_nil,List.getD_eq_getElem?_getD,List.getElem?_replicate]
   split<;>rfl
  omega
 |succ i ih =>
  have e: ∀ c:List Int,kE r c (i+1)=fA (kE r c i) (r.response.getD i 0) (c.getD i 0):=fun c=>by simp[kE,List.range_succ,List.foldl_append]
  rw[e,e]
  have:=h.2 i
  exact Fb ih this.1 this.2.1 this.2.2
theorem Dc{m:Int}{c d:List Int}(hm:1<=m)(h:lS m c d)(i:Nat):(c.getD i 0==0)=(d.getD i 0==0):=by
 have:=h.2 i
 rw[Bool.eq_iff_iff,beq_iff_eq,beq_iff_eq]; omega
theorem O8{r:Rule}{m:Int}{c d:List Int}(hm:1<=m)(h:lS m c d):oN r c=oN r d:=by
 have e: ∀ i,(c.getD i 0==0)=(d.getD i 0==0):=Dc hm h
 unfold oN rP vw
 rw[h.1]
 simp only[e]
theorem RY{r:Rule}{a b:Elem}{m:Int}(hm:0<=m)(hv:a.value=b.value)(h:lS (m+2) a.counts b.counts):(bH r a=none/\bH r b=none)\/ ∃ x y,bH r a=some x/\bH r b=some y/\x.value=y.value/\lS m x.counts y.counts:=by
 have hz:=Dc (by omega) h
 have out: ∀ {c d:List Int},lS m c d-> ∃ x y,some (⟨bif decide (r.write>=0) then r.write else a.value,fA c r.to 1⟩:Elem)=some x/\some (⟨bif decide (r.write>=0) then r.write else a.value,fA d r.to 1⟩:Elem)=some y/\x.value=y.value/\lS m x.counts y.counts:=fun hcd =>
  ⟨_,_,rfl,rfl,rfl,Fb (x:=1) (y:=1) hcd (by decide) (by decide) rfl⟩
 unfold bH
 simp only
 rw[<- hz,<- hv]
 cases h1:(decide (0<=r.read)&&a.value !=r.read||a.counts.getD r.fr.toNat 0==0) with
 |true=>exact .inl ⟨rfl,rfl⟩
 |false =>
  have hne:a.counts.getD r.fr.toNat 0≠0:=by
   rw[Bool.or_eq_false_iff] at h1
   exact beq_eq_false_iff_ne.1 h1.2
  have hd:lS (m+1) (aP a.counts r.fr) (aP b.counts r.fr):=Lp (by omega) (by rw[Int.add_assoc]; exact h) hne
  generalize aP a.counts r.fr=c at *
  generalize aP b.counts r.fr=d at *
  simp only[cond_false]
  cases k1:(r.kind==1) with
  |true =>
   simp only[cond_true]
   rw[<- O8 (r:=r) (by omega) hd]
   cases q:oN r c with
   |false=>exact .inl ⟨rfl,rfl⟩
   |true=>exact .inr (out (C9 hd (by omega)))
  |false =>
   simp only[cond_false]
   cases k2:(r.kind==2) with
   |true =>
    simp only[cond_true]
    rw[<- Dc (by omega) hd]
    cases q:(c.getD r.gJ.toNat 0==0) with
    |true=>exact .inl ⟨rfl,rfl⟩
    |false =>
     refine .inr ?_
     exact out (Fb (x:=1) (y:=1) (Lp hm hd (beq_eq_false_iff_ne.1 q)) (by decide) (by decide) rfl)
   |false =>
    simp only[cond_false]
    cases k3:(r.kind==3) with
    |true =>
     refine .inr ?_
     rw[<- show c.length=d.length from hd.1]
     exact out (RX (C9 hd (by omega)) _)
    |false =>
     refine .inr ?_
     exact out (C9 hd (by omega))
theorem Lr{m:Int}{e:Elem}(hm:0<=m)(he: ∀ x∈e.counts,0<=x):lS m e.counts (oD m e).counts:=by
 refine⟨by simp[oD,oU],fun i=>?_⟩
 have:=yL he i
 show 0<=_/\0<=(oU m e.counts).getD i 0/\_=min ((oU m e.counts).getD i 0) m
 rw[MW hm]; omega
theorem zX{n vals:Nat}{k:Clause}{a b:Elem}{m:Int}(hk:CS n vals k)(hn:a.counts.length=n)(hr:nC k<=m)(hv:a.value=b.value)(h:lS m a.counts b.counts):holdsB k a=holdsB k b:=by
 unfold holdsB
 rw[hv]
 congr 1
 exact Il h hr fun s hs x hx=>by rw[hn]; exact(hk.each s hs).1.1 x hx
theorem Gi{n vals:Nat}{l:List Clause}{a b:Elem}{m:Int}(hk: ∀ k∈l,CS n vals k)(hn:a.counts.length=n)(hr:bI l<=m)(hv:a.value=b.value)(h:lS m a.counts b.counts):aV l a=aV l b :=
 rW fun k hkl=>zX (hk k hkl) hn (Int.le_trans (yM hkl) hr) hv h
theorem D9{p:Clause->Bool}: ∀ {l:List Clause},(l.filter fun k=> !p k).length+l.countP p=l.length:=by
 intro l
 induction l with
 |nil=>rfl
 |cons x l ih =>
  rw[List.filter_cons,List.countP_cons,List.length_cons]
  cases p x<;>simp<;>omega
def nD:List Clause->List Bool->List Clause
 |k::l,d::ds=>bif d then nD l ds else k::nD l ds
 |_,_=>[]
theorem DN{f:Clause->Bool}: ∀ {l:List Clause},nD l (l.map f)=l.filter fun k=> !f k:=by
 intro l
 induction l with
 |nil=>rfl
 |cons k l ih =>
  show(bif f k then nD l (l.map f) else k::nD l (l.map f))=_
  rw[ih,List.filter_cons]
  cases f k<;>simp
def xQ(r:Rule)(e:Elem)(k:Clause):Bool:=match bH r e with|some x=> !holdsB k x|none=>false
def tJ(l a:List Clause)(f:Clause->Bool)(e:Elem):Bool:=(l.all fun k=>holdsB k e||f k)&&aV a e
def Ea(rs:List Rule)(es:List Elem)(l a:List Clause)(f:Clause->Bool)(k:Clause):Bool:=rs.any fun r=>es.any fun e=>tJ l a f e&&xQ r e k
def aO(rs:List Rule)(es:List Elem)(l a:List Clause)(f:Clause->Bool):Nat->Clause->Bool
 |0=>f
 |j+1=>fun k=>aO rs es l a f j k||Ea rs es l a (aO rs es l a f j) k
def JW(rs:List Rule)(es:List Elem)(l a:List Clause)(f:Clause->Bool):List Clause:=l.filter fun k=> !aO rs es l a f l.length k
section
variable {rs:List Rule} {es:List Elem} {l a:List Clause} {f:Clause->Bool}
theorem VU{g h:Clause->Bool}(q: ∀ k∈l,g k=h k)(k:Clause):Ea rs es l a g k=Ea rs es l a h k:=by
 have: ∀ e,tJ l a g e=tJ l a h e:=fun e=>by
  unfold tJ
  rw[rW fun k hk=>by rw[q k hk]]
 unfold Ea
 simp only[this]
def Eb(rs:List Rule)(es:List Elem)(l a:List Clause)(f:Clause->Bool)(j:Nat):Prop:= ∀ k∈l,aO rs es l a f (j+1) k=aO rs es l a f j k
theorem Ec{i:Nat}(h:Eb rs es l a f i): ∀ d,∀ k∈l,aO rs es l a f (i+d) k=aO rs es l a f i k:=by
 intro d
 induction d with
 |zero=>intro k _; rfl
 |succ d ih =>
  intro k hk
  show(aO rs es l a f (i+d) k||Ea rs es l a (aO rs es l a f (i+d)) k)=_
  rw[VU ih k,ih k hk]
  exact h k hk
theorem countP_le{α:Type}{p q:α->Bool}: ∀ {l:List α},(∀ k∈l,p k=true->q k=true)->l.countP p<=l.countP q/\((∃ k∈l,p k=false/\q k=true)->l.countP p<l.countP q):=by
 intro l
 induction l with
 |nil=>intro _; exact⟨Nat.le_refl _,by rintro⟨k,hk,_⟩; cases hk⟩
 |cons x l ih =>
  intro h
  obtain⟨h1,h2⟩:=ih fun k hk=>h k (List.mem_cons_of_mem _ hk)
  rw[List.countP_cons,List.countP_cons]
  have hx:=h x (by simp)
  refine⟨?_,?_⟩
  ·cases hp:p x with
   |true=>rw[hx hp]; simp only[if_true]; omega
   |false=>simp only[Bool.false_eq_true,if_false]; omega
  ·rintro⟨k,hk,g1,g2⟩
   rcases List.mem_cons.1 hk with rfl|hk
   ·rw[g1,g2]; simp only[Bool.false_eq_true,if_false,if_true]; omega
   ·have:=h2 ⟨k,hk,g1,g2⟩
    cases hp:p x with
    |true=>rw[hx hp]; simp only[if_true]; omega
    |false=>simp only[Bool.false_eq_true,if_false]; omega
theorem Fe{j:Nat}{k:Clause}(h:aO rs es l a f j k=true):aO rs es l a f (j+1) k=true:=by
 show(aO rs es l a f j k||_)=true
 rw[h]; rfl
theorem Ls{j:Nat}(h: ¬ Eb rs es l a f j):l.countP (aO rs es l a f j)<l.countP (aO rs es l a f (j+1)):=by
 refine(countP_le fun k _=>Fe).2 ?_
 refine Classical.byContradiction fun hn=>h fun k hk=>?_
 cases h1:aO rs es l a f j k with
 |true=>exact Fe h1
 |false =>
  cases h2:aO rs es l a f (j+1) k with
  |false=>rfl
  |true=>exact(hn ⟨k,hk,h1,h2⟩).elim
theorem aar: ∀ j,(∃ i,i<j/\Eb rs es l a f i)\/j<=l.countP (aO rs es l a f j):=by
 intro j
 induction j with
 |zero=>exact .inr (Nat.zero_le _)
 |succ j ih =>
  rcases ih with ⟨i,hi,h⟩|h
  ·exact .inl ⟨i,by omega,h⟩
  ·by_cases hs:Eb rs es l a f j
   ·exact .inl ⟨j,by omega,hs⟩
   ·have:=Ls hs; exact .inr (by omega)
theorem IY:Eb rs es l a f l.length:=by
 rcases aar (rs:=rs) (es:=es) (l:=l) (a:=a) (f:=f) (l.length+1) with ⟨i,hi,h⟩|h
 ·intro k hk
  have h1:=Ec h (l.length+1-i) k hk
  have h2:=Ec h (l.length-i) k hk
  rw[show i+(l.length+1-i)=l.length+1 by omega] at h1
  rw[show i+(l.length-i)=l.length by omega] at h2
  rw[h1,h2]
 ·have:=List.countP_le_length (p:=aO rs es l a f (l.length+1)) (l:=l)
  omega
theorem sQ{p q:Clause->Bool}(h: ∀ k∈l,p k=q k):l.filter p=l.filter q:=List.filter_congr h
theorem Gj{j:Nat}(h:Eb rs es l a f j):l.filter (fun k=> !aO rs es l a f j k)=JW rs es l a f:=by
 unfold JW
 refine sQ fun k hk=>?_
 by_cases e:j<=l.length
 ·have h1:=Ec h (l.length-j) k hk
  rw[show j+(l.length-j)=l.length by omega] at h1
  rw[h1]
 ·have h1:=Ec (IY (rs:=rs) (es:=es) (l:=l) (a:=a) (f:=f)) (j-l.length) k hk
  rw[show l.length+(j-l.length)=j by omega] at h1
  rw[h1]
theorem Yo{j:Nat}(h:l.length<=j):l.filter (fun k=> !aO rs es l a f j k)=JW rs es l a f:=by
 unfold JW
 refine sQ fun k hk=>?_
 have h1:=Ec (IY (rs:=rs) (es:=es) (l:=l) (a:=a) (f:=f)) (j-l.length) k hk
 rw[show l.length+(j-l.length)=j by omega] at h1
 rw[h1]
def iW(rs:List Rule)(es:List Elem)(now:List Clause):List Elem:=(es.filter (aV now)).flatMap fun e=>rs.filterMap fun r=>bH r e
theorem zY{e:Elem}:tJ l a f e=(aV (l.filter fun k=> !f k) e&&aV a e):=by
 unfold tJ
 congr 1
 unfold aV
 rw[Bool.eq_iff_iff,List.all_eq_true,List.all_eq_true]
 constructor
 ·intro h k hk
  have h1:=List.mem_filter.1 hk
  have h2:=h k h1.1
  have h3:f k=false:=by simpa using h1.2
  rw[h3,Bool.or_false] at h2; exact h2
 ·intro h k hk
  cases hf:f k with
  |true=>rw[Bool.or_true]
  |false=>rw[Bool.or_false]; exact h k (List.mem_filter.2 ⟨hk,by rw[hf]; rfl⟩)
theorem RZ{k:Clause}:((iW rs (es.filter (aV a)) (l.filter fun k=> !f k)).all fun x=>holdsB k x)= !Ea rs es l a f k:=by
 rw[Bool.eq_iff_iff,List.all_eq_true,Bool.not_eq_true']
 unfold iW Ea
 constructor
 ·intro h
  rw[List.any_eq_false]
  intro r hr hc
  rw[List.any_eq_true] at hc
  obtain⟨e,he,hc⟩:=hc
  rw[Bool.and_eq_true,zY,Bool.and_eq_true] at hc
  obtain⟨⟨h1,h2⟩,h3⟩:=hc
  unfold xQ at h3
  cases hf:bH r e with
  |none=>rw[hf] at h3; cases h3
  |some x =>
   rw[hf] at h3
   have:=h x (List.mem_flatMap.2 ⟨e,List.mem_filter.2 ⟨List.mem_filter.2 ⟨he,h2⟩,h1⟩,List.mem_filterMap.2 ⟨r,hr,hf⟩⟩)
   simp only[this] at h3; cases h3
 ·intro h x hx
  obtain⟨e,he,hx⟩:=List.mem_flatMap.1 hx
  obtain⟨r,hr,hf⟩:=List.mem_filterMap.1 hx
  obtain⟨he1,h1⟩:=List.mem_filter.1 he
  obtain⟨he2,h2⟩:=List.mem_filter.1 he1
  rw[List.any_eq_false] at h
  have h3:=h r hr
  rw[Bool.not_eq_true,List.any_eq_false] at h3
  have h4:=h3 e he2
  rw[zY,h1,h2] at h4
  unfold xQ at h4
  rw[hf] at h4
  simpa using h4
theorem Si{j:Nat}:(l.filter fun k=> !aO rs es l a f j k).filter (fun k=>(iW rs (es.filter (aV a)) (l.filter fun k=> !aO rs es l a f j k)).all fun x=>holdsB k x)=l.filter fun k=> !aO rs es l a f (j+1) k:=by
 rw[List.filter_filter]
 refine sQ fun k _=>?_
 rw[RZ]
 show _= !(aO rs es l a f j k||Ea rs es l a (aO rs es l a f j) k)
 rw[Bool.not_or,Bool.and_comm]
theorem Sj{j:Nat}(h:(l.filter fun k=> !aO rs es l a f (j+1) k).length=(l.filter fun k=> !aO rs es l a f j k).length):Eb rs es l a f j:=by
 refine Classical.byContradiction fun hn=>?_
 have h1:=Ls hn
 have h2:=D9 (l:=l) (p:=aO rs es l a f j)
 have h3:=D9 (l:=l) (p:=aO rs es l a f (j+1))
 omega
end
theorem kept_len: ∀ {l:List Clause} {d:List Bool},(nD l d).length<=l.length:=by
 intro l
 induction l with
 |nil=>intro d; exact Nat.le_refl _
 |cons k l ih =>
  intro d
  cases d with
  |nil=>exact Nat.zero_le _
  |cons b d=>have:=@ih d; cases b<;>simp only[nD,cond_true,cond_false,List.length_cons]<;>omega
theorem Yp{k:Clause}: ∀ {l:List Clause} {d:List Bool},k∈nD l d->k∈l:=by
 intro l
 induction l with
 |nil=>intro d h; exact h
 |cons x l ih =>
  intro d h
  cases d with
  |nil=>cases h
  |cons b d =>
   cases b with
   |true=>exact List.mem_cons_of_mem _ (ih h)
   |false =>
    rcases List.mem_cons.1 h with rfl|h
    ·simp
    ·exact List.mem_cons_of_mem _ (ih h)
theorem Yq: ∀ {l:List Clause} {d:List Bool} {k:Clause} {b:Bool},l.length=d.length->nD (l++[k]) (d++[b])=nD l d++bif b then [] else [k]:=by
 intro l
 induction l with
 |nil=>intro d k b h; cases d with
  |nil=>cases b<;>rfl
  |cons x d=>cases h
 |cons x l ih =>
  intro d k b h
  cases d with
  |nil=>cases h
  |cons y d =>
   have:=@ih d k b (by simpa using h)
   cases y<;>simp only[List.cons_append,nD,cond_true,cond_false,this]
theorem VW{l:List Clause}{d:List Bool}{i:Nat}(h1:i<l.length)(h2:i<d.length):nD (l.take (i+1)) (d.take (i+1))=nD (l.take i) (d.take i)++bif d.getD i false then [] else [l.getD i default]:=by
 have e1:l.take (i+1)=l.take i++[l.getD i default]:=by rw[List.take_add_one]; simp[h1]
 have e2:d.take (i+1)=d.take i++[d.getD i false]:=by rw[List.take_add_one]; simp[h2]
 rw[e1,e2,Yq (by rw[List.length_take,List.length_take]; omega)]
theorem S.Fg(l:List Int)(f:Bool)(hl:l.length<2^30):aj Tryz.prog 112 [.row 0 f (.ints l)] (.row 0 false (.ints l)):=by
 refine aj.of Bd.iD (by simp) rfl rfl ?_
 conv=>whnf
 refine Rq.mk (fun hz=>?_) ?_
 ·have h0:l=[]:=List.eq_nil_of_length_eq_zero hz
  subst h0
  conv=>whnf
  refine Fork.mk (fun _=>?_) (fun q=>absurd (q.symm.trans ((rfl:true=true))) Bool.false_ne_true)
  conv=>whnf
  exact⟨by show T.sub _ _ (.sl 0 false []) (.sl 0 true []); simp[T.sub,T.dG]⟩
 ·conv=>whnf
  refine Fork.mk (fun q=>absurd (q.symm.trans ((rfl:false=false))).symm Bool.false_ne_true) (fun _=>?_)
  conv=>whnf
  refine .mk (by simp only[kU,kD,Rw.len]; omega) ?_
  conv=>whnf
  cases l with
  |nil =>
   exact ak.aaf rfl
  |cons x l =>
   repeat(refine VC.mk (by simp only[kU,kD,Rw.len]; omega) ?_; conv=>whnf)
   exact ak.aaf rfl
theorem S.iO(k:Clause)(hk:ug k):aj Tryz.prog 118 [.dat (.clause k)] (.dat (.clause k)):=by
 have h1:=hk.each
 refine aj.of Bd.iO (by simp) rfl rfl ?_
 conv=>whnf
 refine aF.nil 3 24 0 (by rfl) rfl rfl rfl ?_
 refine aF.lY 50 [1,2,7,8] (fun i:Nat=>[(9,.int i),(3,.own 2)]) (fun i=>[(0,.box 59 4 (.dat (.clause k))),(1,.box 59 4 (.agg [.row 0 true .nil,.row 0 true .nil,.row 0 true .nil])),(2,pU (k.each.take i))]) (fun i=>i<=k.each.length) (fun i=>k.each.length-i) 0 [0,1,7] rfl (by decide) (fun _=>rfl) (Nat.zero_le _) ?_ ?_ ?_
 ·exact⟨⟨_,rfl,.eq rfl⟩,⟨_,rfl,.eq rfl⟩,trivial⟩
 ·exact⟨okF rfl nofun rfl rfl rfl ⟨rfl,rfl⟩ rfl,okF rfl nofun rfl rfl rfl ⟨rfl,rfl⟩ rfl,okF rfl nofun rfl rfl rfl ⟨rfl,rfl⟩ rfl,trivial⟩
 conv=>whnf
 refine⟨⟨⟨_,rfl,.eq rfl⟩,⟨_,rfl,.eq rfl⟩,⟨_,rfl,.eq rfl⟩,⟨_,rfl,.eq rfl⟩,trivial⟩,rfl,?_⟩
 rintro i hi
 conv=>whnf
 refine⟨fun h3=>?_,fun h3=>?_⟩
 ·have hi':i<k.each.length:=by simpa using h3
  conv=>whnf
  refine .mk (by simp only[Rw.rng] at *; omega) ?_
  conv=>whnf
  refine ah.pure (S.Fg (k.each.getD i []) false (hk.rows i)) rfl ?_
  conv=>whnf
  have ht:k.each.take (i+1)=k.each.take i++[k.each.getD i []]:=by rw[List.take_add_one]; simp[hi']
  have hl:(k.each.take i).length=i:=by rw[List.length_take]; omega
  conv=>whnf
  repeat(refine VC.mk (by first|(show((k.each.take i).length+(0+1))*24<=140737488355328/\(k.each.take i).length+(0+1)<=1152921504606846976; omega)|(simp only[okI] at *; omega)) ?_; conv=>whnf)
  refine⟨i+1,[0,1,58],by omega,by omega,⟨⟨_,rfl,.eq rfl⟩,⟨_,rfl,.eq rfl⟩,trivial⟩,⟨⟨_,rfl,.eq rfl⟩,⟨_,rfl,.eq rfl⟩,⟨_,rfl,.eq rfl⟩,⟨_,rfl,.eq rfl⟩,trivial⟩,okF rfl nofun rfl rfl rfl ⟨rfl,rfl⟩ rfl,okF rfl nofun rfl rfl rfl ⟨rfl,rfl⟩ rfl,okF rfl nofun rfl rfl rfl ⟨rfl,rfl⟩ ?_,trivial⟩
  rw[ht]; simp[OV.aH,Rw.aW,V.aW,V.aI]
 ·have hi':i=k.each.length:=by have: ¬ ((i:Int)<(k.each.length:Int)):=of_decide_eq_false h3; omega
  subst hi'
  rw[List.take_length]
  conv=>whnf
  refine ah.pure (S.Fg k.values false hk.values) rfl ?_
  conv=>whnf
  conv=>whnf
  refine ah.pure (S.Fg k.some false hk.some) rfl ?_
  conv=>whnf
  conv=>whnf
  exact⟨show T.sub _ _ (.agg [.sl 0 false (k.each.map Go.Ab.ints),.sl 0 false (k.values.map T.int),.sl 0 false (k.some.map T.int)]) (.agg [.own 2,.sl 0 false (k.values.map T.int),.sl 0 false (k.some.map T.int)]) from⟨XU trivial rfl,aC _,aC _,trivial⟩⟩
theorem SmallK.keep{l:List Clause}(h:SmallK l)(d:List Bool):SmallK (nD l d):=by
 refine⟨Nat.lt_of_le_of_lt kept_len h.len,fun i=>?_⟩
 by_cases hi:i<(nD l d).length
 ·obtain⟨j,hj⟩:=List.mem_iff_getElem?.1 (Yp (getM (d:=default) hi))
  have:=h.cl j
  rw[List.getD_eq_getElem?_getD,hj] at this; exact this
 ·rw[show(nD l d).getD i default=default by simp[List.getD_eq_getElem?_getD,List.getElem?_eq_none (by omega:(nD l d).length<=i)]]
  have:=h.cl l.length
  rw[show l.getD l.length default=default by simp[List.getD_eq_getElem?_getD]] at this; exact this
theorem S.nR(l:List Clause)(d:List Bool)(f g:Bool)(hl:SmallK l)(hd:d.length=l.length):aj Tryz.prog 125 [.row 4 f (.clauses l),.row 0 g (.bools d)] (.row 4 false (.clauses (nD l d))):=by
 have h1:=hl.len
 refine aj.of Bd.nR (by simp) rfl rfl ?_
 conv=>whnf
 refine aF.nil 5 59 4 (by rfl) rfl rfl rfl ?_
 refine aF.lY 50 [1,8,9] (fun i:Nat=>[(10,.int i),(5,.own 0)]) (fun i=>[(0,Oy (nD (l.take i) (d.take i)))]) (fun i=>i<=l.length) (fun i=>l.length-i) 0 [5] rfl (by decide) (fun _=>rfl) (Nat.zero_le _) ?_ ?_ ?_
 ·exact⟨⟨_,rfl,.eq rfl⟩,⟨_,rfl,.eq rfl⟩,trivial⟩
 ·exact⟨okF rfl nofun rfl rfl rfl ⟨rfl,rfl⟩ rfl,trivial⟩
 conv=>whnf
 refine⟨⟨⟨_,rfl,.eq rfl⟩,⟨_,rfl,.eq rfl⟩,⟨_,rfl,.eq rfl⟩,trivial⟩,rfl,?_⟩
 rintro i hi
 conv=>whnf
 refine⟨fun h3=>?_,fun h3=>?_⟩
 ·have hi':i<l.length:=by simpa using h3
  have hkn:=VW (d:=d) hi' (by omega)
  have hkl:(nD (l.take i) (d.take i)).length<=i:=Nat.le_trans kept_len (by rw[List.length_take]; omega)
  conv=>whnf
  repeat(refine VC.mk (by simp only[Rw.rng]; omega) ?_; conv=>whnf)
  refine⟨fun h4=>?_,fun h4=>?_⟩
  ·have h4':d.getD i false=false:=by simpa using h4
   rw[h4'] at hkn
   conv=>whnf
   refine ah.pure (S.iO (l.getD i default) (hl.cl i)) rfl ?_
   conv=>whnf
   conv=>whnf
   repeat(refine VC.mk (by first|(show((nD (l.take i) (d.take i)).length+(0+1))*72<=140737488355328/\(nD (l.take i) (d.take i)).length+(0+1)<=1152921504606846976; omega)|(simp only[okI] at *; omega)) ?_; conv=>whnf)
   refine⟨i+1,[66],by omega,by omega,⟨⟨_,rfl,.eq rfl⟩,⟨_,rfl,.eq rfl⟩,trivial⟩,⟨⟨_,rfl,.eq rfl⟩,⟨_,rfl,.eq rfl⟩,⟨_,rfl,.eq rfl⟩,trivial⟩,okF rfl nofun rfl rfl rfl ⟨rfl,rfl⟩ ?_,trivial⟩
   rw[hkn]; simp[OV.aH,Rw.aW,V.aW,V.aI,Dat.aI]
  ·have h4':d.getD i false=true:=by simpa using h4
   rw[h4'] at hkn
   conv=>whnf
   refine .mk (by simp only[okI] at *; omega) ?_
   conv=>whnf
   refine⟨i+1,[0],by omega,by omega,⟨⟨_,rfl,.eq rfl⟩,⟨_,rfl,.eq rfl⟩,trivial⟩,⟨⟨_,rfl,.eq rfl⟩,⟨_,rfl,.eq rfl⟩,⟨_,rfl,.eq rfl⟩,trivial⟩,okF rfl nofun rfl rfl rfl ⟨rfl,rfl⟩ ?_,trivial⟩
   rw[hkn]; simp
 ·have hi':i=l.length:=by have: ¬ ((i:Int)<(l.length:Int)):=of_decide_eq_false h3; omega
  subst hi'
  rw[List.take_length,<- hd,List.take_length]
  conv=>whnf
  exact ak.X8 rfl
def Yr(l:List Clause)(es:List Elem):List Clause:=l.filter fun k=>es.all fun e=>holdsB k e
theorem O9{l:List Clause}{p:Clause->Bool}{i:Nat}(hi:i<l.length):(l.take (i+1)).filter p=(l.take i).filter p++bif p (l.getD i default) then [l.getD i default] else []:=by
 have e1:l.take (i+1)=l.take i++[l.getD i default]:=by rw[List.take_add_one]; simp[hi]
 rw[e1,List.filter_append,List.filter_cons,List.filter_nil]
 cases p (l.getD i default)<;>rfl
theorem S.rZ(l:List Clause)(es:List Elem)(f g:Bool)(hl:l.length<2^30)(he:es.length<2^30)(h: ∀ i j,i<l.length->j<es.length->Vw (l.getD i default) (es.getD j default))(hv: ∀ i,(l.getD i default).values.length<2^30):aj Tryz.prog 93 [.row 4 f (.clauses l),.row 3 g (.elems es)] (.row 4 false (.clauses (Yr l es))):=by
 refine aj.of Bd.rZ (by simp) rfl rfl ?_
 conv=>whnf
 refine aF.nil 5 59 4 (by rfl) rfl rfl rfl ?_
 refine aF.lY 50 [0,1] (fun i:Nat=>[(6,.int i),(5,.own 0)]) (fun i=>[(0,Oy ((l.take i).filter fun k=>es.all fun e=>holdsB k e))]) (fun i=>i<=l.length) (fun i=>l.length-i) 0 [3] rfl (by decide) (fun _=>rfl) (Nat.zero_le _) ?_ ?_ ?_
 ·exact⟨⟨_,rfl,.eq rfl⟩,⟨_,rfl,.eq rfl⟩,trivial⟩
 ·exact⟨okF rfl nofun rfl rfl rfl ⟨rfl,rfl⟩ rfl,trivial⟩
 conv=>whnf
 refine⟨⟨⟨_,rfl,.eq rfl⟩,⟨_,rfl,.eq rfl⟩,trivial⟩,rfl,?_⟩
 rintro i hi
 conv=>whnf
 refine⟨fun h3=>?_,fun h3=>?_⟩
 ·have hi':i<l.length:=by simpa using h3
  have hkn:=O9 (p:=fun k=>es.all fun e=>holdsB k e) hi'
  have hkl:((l.take i).filter fun k=>es.all fun e=>holdsB k e).length<=i:=Nat.le_trans (List.length_filter_le _ _) (by rw[List.length_take]; omega)
  conv=>whnf
  refine aF.same [0,1,5,6] (fun j:Nat=>[(8,.int j),(7,.bool ((es.take j).all fun e=>holdsB (l.getD i default) e))]) (fun j=>j<=es.length) (fun j=>es.length-j) 0 rfl (by decide) rfl (fun _=>rfl) (Nat.zero_le _) ⟨⟨_,rfl,rfl⟩,⟨_,rfl,rfl⟩,trivial⟩ ?_
  conv=>whnf
  refine⟨rfl,?_⟩
  rintro j hj
  conv=>whnf
  refine VC.mk id ?_
  conv=>whnf
  refine⟨fun h4=>?_,fun h4=>?_⟩
  ·have h4':=h4
   rw[Bool.and_eq_true] at h4'
   obtain⟨g1,g2⟩:=h4'
   have hj':j<es.length:=by simpa using g1
   have hf:=h i j hi' hj'
   have href:MV (l.getD i default) (es.getD j default)=holdsB (l.getD i default) (es.getD j default):=(hf.cl.elim fun _ c=>Uc c fun x hx=>(hf.ok x hx).1)
   conv=>whnf
   repeat(refine VC.mk (by simp only[Rw.rng] at *; omega) ?_; conv=>whnf)
   refine ah.pure (S.uM (l.getD i default) (es.getD j default) hf (hv i)) rfl ?_
   conv=>whnf
   refine .mk (by simp only[okI] at *; omega) ?_
   conv=>whnf
   rw[href]
   conv=>whnf
   refine⟨j+1,by omega,by omega,⟨⟨_,rfl,rfl⟩,⟨_,rfl,?_⟩,trivial⟩,?_,rfl⟩
   ·rw[mO (d:=default) hj' g2]; rfl
   ·repeat' (first|exact trivial|exact⟨_,rfl,rfl⟩|constructor)
  ·have hall:((es.take j).all fun e=>holdsB (l.getD i default) e)=es.all fun e=>holdsB (l.getD i default) e:=by
    rw[Bool.and_eq_false_iff] at h4
    rcases h4 with h4|h4
    ·rw[List.take_of_length_le (by have: ¬ ((j:Int)<(es.length:Int)):=of_decide_eq_false h4; omega)]
    ·rw[h4]
     refine Eq.symm (Bool.eq_false_iff.2 fun hn=>?_)
     rw[List.all_eq_true] at hn
     rw[List.all_eq_false] at h4
     obtain⟨x,hx,hq⟩:=h4
     exact hq (hn x (List.mem_of_mem_take hx))
   rw[hall]
   conv=>whnf
   refine⟨fun h5=>?_,fun h5=>?_⟩
   ·rw[show(es.all fun e=>holdsB (l.getD i default) e)=true from h5] at hkn
    conv=>whnf
    repeat(refine VC.mk (by first|(show(((l.take i).filter fun k=>es.all fun e=>holdsB k e).length+(0+1))*72<=140737488355328/\((l.take i).filter fun k=>es.all fun e=>holdsB k e).length+(0+1)<=1152921504606846976; omega)|(simp only[okI,Rw.rng] at *; omega)) ?_; conv=>whnf)
    refine⟨i+1,[70],by omega,by omega,⟨⟨_,rfl,.eq rfl⟩,⟨_,rfl,.eq rfl⟩,trivial⟩,⟨⟨_,rfl,.eq rfl⟩,⟨_,rfl,.eq rfl⟩,trivial⟩,okF rfl nofun rfl rfl rfl ⟨rfl,rfl⟩ ?_,trivial⟩
    rw[hkn]; simp[OV.aH,Rw.aW,V.aW]; rfl
   ·rw[show(es.all fun e=>holdsB (l.getD i default) e)=false from h5] at hkn
    conv=>whnf
    refine .mk (by simp only[okI] at *; omega) ?_
    conv=>whnf
    refine⟨i+1,[0],by omega,by omega,⟨⟨_,rfl,.eq rfl⟩,⟨_,rfl,.eq rfl⟩,trivial⟩,⟨⟨_,rfl,.eq rfl⟩,⟨_,rfl,.eq rfl⟩,trivial⟩,okF rfl nofun rfl rfl rfl ⟨rfl,rfl⟩ ?_,trivial⟩
    rw[hkn]; simp
 ·have hi':i=l.length:=by have: ¬ ((i:Int)<(l.length:Int)):=of_decide_eq_false h3; omega
  subst hi'
  rw[List.take_length]
  conv=>whnf
  exact ak.X8 rfl
def aB(es:List Elem)(k:Clause):Bool:=es.any fun e=> !holdsB k e
theorem VX{l:List Clause}{es:List Elem}:nD l (l.map (aB es))=Yr l es:=by
 rw[DN,Yr]
 refine List.filter_congr fun k _=>?_
 rw[aB,Bool.eq_iff_iff,Bool.not_eq_true',List.any_eq_false,List.all_eq_true]
 exact⟨fun h x hx=>by have:=h x hx; simpa using this,fun h x hx=>by have:=h x hx; simpa using this⟩
theorem VY{es:List Elem}{j:Nat}(hj:j<es.length)(k:Clause):aB (es.take (j+1)) k=(aB (es.take j) k|| !holdsB k (es.getD j default)):=by
 have e1:es.take (j+1)=es.take j++[es.getD j default]:=by rw[List.take_add_one]; simp[hj]
 unfold aB
 rw[e1,List.any_append]; simp
def Nk(l:List Clause)(p q:Clause->Bool)(i:Nat):List Bool:=(l.take i).map p++(l.drop i).map q
theorem Yt{l:List Clause}{p q:Clause->Bool}:Nk l p q l.length=l.map p:=by simp[Nk]
theorem Pg{l:List Clause}{p q:Clause->Bool}{i:Nat}:(Nk l p q i).length=l.length:=by simp[Nk]; omega
theorem VZ{l:List Clause}{p q:Clause->Bool}{i:Nat}(hi:i<l.length):(Nk l p q i).getD i false=q (l.getD i default)/\(Nk l p q i).set i (p (l.getD i default))=Nk l p q (i+1):=by
 have hl:((l.take i).map p).length=i:=by simp; omega
 have hd:l.drop i=l.getD i default::l.drop (i+1):=bC default hi
 unfold Nk
 rw[hd,List.map_cons]
 refine⟨?_,?_⟩
 ·rw[List.getD_eq_getElem?_getD,List.getElem?_append_right (by omega),hl,Nat.sub_self]; rfl
 ·rw[List.set_append,if_neg (by omega),hl,Nat.sub_self,List.set_cons_zero,List.take_add_one,List.map_append]
  simp[hi]
theorem G8{l:List Clause}{e:Elem}{i:Nat}(hi:i<l.length):(fE l e).getD i false=holdsB (l.getD i default) e:=by
 simp[fE,hi]
theorem ak.Yu{e:Int}{h:Hz}:ak (.fO [.row 4 false (.clauses []),.int e]) (.fO [.row 0 true .nil,.int e]) h:=⟨by
 show T.sub _ _ (.fO [.sl 4 false [],.int e]) (.fO [.sl 0 true [],.int e])
 simp[T.sub,T.dG]⟩
def Lu(l m:List Clause):Bool:=l.length==m.length&&(List.range l.length).all fun i=>CO (l.getD i default) (m.getD i default)==0
theorem S.zK(l m:List Clause)(f g:Bool)(hl:SmallK l)(hm:SmallK m):aj Tryz.prog 33 [.row 4 f (.clauses l),.row 4 g (.clauses m)] (.bool (Lu l m)):=by
 have k1:=hl.len; have k2:=hm.len
 refine aj.of Bd.zK (by simp) rfl rfl ?_
 conv=>whnf
 refine⟨fun h1=>?_,fun h1=>?_⟩
 ·have h1':(l.length==m.length)=false:=by
   have h2:((l.length:Int) !=(m.length:Int))=true:=h1
   rw[beq_eq_false_iff_ne]; intro e; rw[e] at h2; simp at h2
  conv=>whnf
  exact ak.bool (by rw[Lu,h1']; rfl)
 have h1':l.length=m.length:=by
  have h2:((l.length:Int) !=(m.length:Int))=false:=h1
  have h3:(l.length:Int)=m.length:=by simpa using h2
  omega
 have hsm:Lu l m=(List.range l.length).all fun i=>CO (l.getD i default) (m.getD i default)==0:=by rw[Lu,<- h1',beq_self_eq_true,Bool.true_and]
 conv=>whnf
 refine aF.same [0,1] (fun i:Nat=>[(5,.int i)]) (fun i=>i<=l.length/\((List.range i).all fun i=>CO (l.getD i default) (m.getD i default)==0)=true) (fun i=>l.length-i) 0 rfl (by decide) rfl (fun _=>rfl) ⟨by omega,by simp⟩ ⟨⟨_,rfl,rfl⟩,trivial⟩ ?_
 conv=>whnf
 refine⟨rfl,?_⟩
 rintro i ⟨hi,hall⟩
 conv=>whnf
 refine⟨fun h3=>?_,fun h3=>?_⟩
 ·have hi':i<l.length:=by simpa using h3
  conv=>whnf
  repeat(refine VC.mk (by simp only[Rw.rng] at *; omega) ?_; conv=>whnf)
  refine ah.pure (S.iT (l.getD i default) (m.getD i default) (hl.cl i) (hm.cl i)) rfl ?_
  conv=>whnf
  refine⟨fun h4=>?_,fun h4=>?_⟩
  ·conv=>whnf
   refine ak.bool ?_
   rw[hsm,List.all_eq_false]
   exact⟨i,List.mem_range.2 hi',by simpa using h4⟩
  ·conv=>whnf
   refine .mk (by simp only[okI] at *; omega) ?_
   conv=>whnf
   refine⟨i+1,⟨by omega,?_⟩,by omega,⟨⟨_,rfl,rfl⟩,trivial⟩,?_,rfl⟩
   ·rw[List.range_succ,List.all_append,hall]; simpa using h4
   ·repeat' (first|exact trivial|exact⟨_,rfl,rfl⟩|constructor)
 ·have hi':i=l.length:=by have: ¬ ((i:Int)<(l.length:Int)):=of_decide_eq_false h3; omega
  subst hi'
  conv=>whnf
  exact ak.bool (by rw[hsm,hall])
theorem Fh: ∀ {l:List Int},cmpL l l=0:=by
 intro l
 induction l with
 |nil=>rfl
 |cons x l ih=>simp[cmpL,ih]
theorem Sl: ∀ {l:List (List Int)},zW l l=0:=by
 intro l
 induction l with
 |nil=>rfl
 |cons x l ih=>rw[zW,Fh,ih]; rfl
theorem KI{k:Clause}:CO k k=0:=by
 rw[CO,Sl,Fh,Fh]; simp[Xr,Yn]
theorem Q8{l:List Clause}:Lu l l=true:=by
 simp[Lu,KI]
end Go.Proofs.YtifbibbicplneaaGreatDoor
