/-
 The abstract layer, part 13: a contract in a larger heap; operations change places.
-/
import Derived.TacticsIn
import Derived.OrdersIn
import Derived.Deep.LoopGhost
import Derived.Test.YtdloaandiobgdaaGreatDoorLb
namespace Go.Ab
section
variable {P:Program}
theorem aP.frame{f:FuncId}{ts:List T}{h h1:Hp}{n:Nat}{post:T->Prop}(H:aP P f ts h n fun t h'=>h'=h/\t.free=true/\post t)(hx:Ak h h1)
  (hc: ∀ i ob,h i=some ob->T.aO (fun j=>(h1 j).isSome=true->(h j).isSome=true) ob.l):aP P f ts h1 n fun t h'=>h'=h1/\t.free=true/\post t:=by
 obtain⟨⟨t0,h0,_,hf0,hp0⟩,hcl,hcall⟩:=H;refine⟨⟨t0,h1,rfl,hf0,hp0⟩,hcl,fun F M E vs hk he hts hid hm hn=>?_⟩
 let E0:Env:= {E with h:=h}
 let F0:Fr P:= {s:=fun g=>F g\/ ∃ i ob,h1 i=some ob/\h i=none/\rowB (E.φ i)=some g}
 have he': ∀ i ob,h1 i=some ob->E.h i=some ob:=fun i ob hi=>by rw[he]; exact hi
 have hK0: ∀ M,Keeps E E0 M:=fun M=>⟨fun _ h=>h,fun _ _=>rfl,fun i _ hi=>⟨by rw[he]; exact hx.some hi,rfl,rfl⟩,rfl⟩
 have hk0:qY F0 E0:=by
  refine⟨fun i ob hi=>?_,fun i ob g hi hg=>?_,fun i j oi oj g hij hi hj=>hk.sep i j oi oj g hij (he' _ _ (hx _ _ hi)) (he' _ _ (hx _ _ hj)),hk.slt,fun g hg=>?_,fun g hs hg=>?_,⟨fun g cs hg=>⟨.inl (hk.gl.1 g cs hg).1,(hk.gl.1 g cs hg).2⟩,hk.gl.2.of (fun _ h=>.inl h) (fun _ _=>rfl) rfl⟩⟩
  ·obtain⟨k1,k2,k3⟩:=hk.obs i ob (he' _ _ (hx _ _ hi));exact⟨k1.keep (hK0 M) (hm i ob (hx _ _ hi)).2 (fun _ _=>rfl),k2,k3⟩
  ·obtain⟨k1,k2⟩:=hk.out i ob g (he' _ _ (hx _ _ hi)) hg;refine⟨k1,fun hF=>?_⟩;rcases hF with hF|⟨i',ob',h1',h2',h3'⟩
   ·exact k2 hF
   ·refine hk.sep i i' ob ob' g ?_ (he' _ _ (hx _ _ hi)) (he' _ _ h1') hg h3';rintro rfl;have hi':h i=some ob:=hi;rw[h2'] at hi'; cases hi'
  ·rcases hg with hg|⟨i',ob',h1',_,h3'⟩
   ·exact hk.flt g hg
   ·exact(hk.obs i' ob' (he' _ _ h1')).1.lt h3'
  ·rcases hg with hg|⟨i',ob',h1',_,h3'⟩
   ·exact hk.sf g hs hg
   ·exact(hk.out i' ob' g (he' _ _ h1') h3').1 hs
 refine(hcall F0 M E0 vs hk0 rfl (jd _ M (hK0 M) hid _ hts) hid (fun i ob hi=>hm i ob (hx _ _ hi)) hn).mono ?_;rintro e w' ⟨v,t,E0',rfl,rfl,⟨hh,hfree,hpost⟩,hv,hk0',hext,hS,_,_⟩
 let E':Env:= {E0' with h:=h1,φ:=fun i=>if(h i).isSome=true then E0'.φ i else E.φ i,κ:=fun i=>if(h i).isSome=true then E0'.κ i else E.κ i}
 have hsome: ∀ i ob,h i=some ob->(h i).isSome=true:=fun i ob hi=>by rw[hi]; rfl
 have hnone: ∀ i,h i=none-> ¬ ((h i).isSome=true):=fun i hi=>by rw[hi]; simp
 have hS0: ∀ i,M i->(h i).isSome=true->E0'.φ i=E.φ i/\E0'.κ i=E.κ i:=fun i hi hs=>(hS i hi (by rw[hh]; exact hs)).2
 have ER:Same E E' M:=by
  intro i hi hs;refine⟨by rw[he]; exact hs,?_,?_⟩
  ·show(if(h i).isSome=true then E0'.φ i else E.φ i)=_;split
   ·rename_i hq; exact(hS0 i hi hq).1
   ·rfl
  ·show(if(h i).isSome=true then E0'.κ i else E.κ i)=_;split
   ·rename_i hq; exact(hS0 i hi hq).2
   ·rfl
 have H9:Ext F E E':=⟨hext.s,fun g hg=>hext.w g (hg.imp id .inl),hext.size,hext.os,hext.tape,hext.output,hext.dr,hext.y⟩
 have hKE:Keeps E E' M:=.of H9 ER;have hKN:Keeps E0' E' (fun j=>(h1 j).isSome=true->(h j).isSome=true):=by
  refine⟨fun _ h=>h,fun _ _=>rfl,fun i hi hs=>?_,rfl⟩;have hq:=hi hs;exact⟨by rw[hh]; exact hq,by show(if(h i).isSome=true then E0'.φ i else E.φ i)=_; rw[bc hq],by show(if(h i).isSome=true then E0'.κ i else E.κ i)=_; rw[bc hq]⟩
 have Yx: ∀ i,(h i).isSome=true->E'.φ i=E0'.φ i/\E'.κ i=E0'.κ i:=fun i hq =>
  ⟨by show(if(h i).isSome=true then E0'.φ i else E.φ i)=_; rw[bc hq],by show(if(h i).isSome=true then E0'.κ i else E.κ i)=_; rw[bc hq]⟩
 have xq: ∀ i,h i=none->E'.φ i=E.φ i/\E'.κ i=E.κ i:=fun i hq =>
  ⟨by show(if(h i).isSome=true then E0'.φ i else E.φ i)=_; rw[bB (hnone i hq)],by show(if(h i).isSome=true then E0'.κ i else E.κ i)=_; rw[bB (hnone i hq)]⟩
 have hcase: ∀ i ob,h1 i=some ob->h i=some ob\/h i=none:=by
  intro i ob hi;cases hq:h i with
  |none=>exact .inr rfl
  |some o=>have:=hx i o hq; rw[hi] at this; cases this; exact .inl rfl
 have hE0: ∀ i ob,h i=some ob->E0'.h i=some ob:=fun i ob hi=>by rw[hh]; exact hi
 have ZU: ∀ i ob g,h1 i=some ob->h i=none->rowB (E.φ i)=some g->F0 g:=fun i ob g h1 h2 h3=>.inr ⟨i,ob,h1,h2,h3⟩
 have hk':qY F E':=by
  refine⟨fun i ob hi=>?_,fun i ob g hi hg=>?_,fun i j oi oj g hij hi hj hgi hgj=>?_,hk0'.slt,fun g hg=>hk0'.flt g (.inl hg),fun g hs hg=>hk0'.sf g hs (.inl hg),H9.gl hk⟩
  ·rcases hcase i ob hi with hq|hq
   ·rw[(Yx i (hsome i ob hq)).1,(Yx i (hsome i ob hq)).2];obtain⟨k1,k2,k3⟩:=hk0'.obs i ob (hE0 i ob hq);exact⟨k1.keep hKN (hc i ob hq) (fun _ _=>rfl),k2,k3⟩
   ·rw[(xq i hq).1,(xq i hq).2];obtain⟨k1,k2,k3⟩:=hk.obs i ob (he' i ob hi);exact⟨k1.keep hKE (hm i ob hi).2 (fun g hg=>hext.w g (.inr (ZU i ob g hi hq hg))),k2,k3⟩
  ·rcases hcase i ob hi with hq|hq
   ·rw[(Yx i (hsome i ob hq)).1] at hg;obtain⟨k1,k2⟩:=hk0'.out i ob g (hE0 i ob hq) hg;exact⟨k1,fun h=>k2 (.inl h)⟩
   ·rw[(xq i hq).1] at hg;exact⟨fun hs=>hk0'.sf g hs (ZU i ob g hi hq hg),(hk.out i ob g (he' i ob hi) hg).2⟩
  ·rcases hcase i oi hi with hq|hq<;>rcases hcase j oj hj with hr|hr
   ·rw[(Yx i (hsome i oi hq)).1] at hgi; rw[(Yx j (hsome j oj hr)).1] at hgj;exact hk0'.sep i j oi oj g hij (hE0 i oi hq) (hE0 j oj hr) hgi hgj
   ·rw[(Yx i (hsome i oi hq)).1] at hgi; rw[(xq j hr).1] at hgj;exact(hk0'.out i oi g (hE0 i oi hq) hgi).2 (ZU j oj g hj hr hgj)
   ·rw[(xq i hq).1] at hgi; rw[(Yx j (hsome j oj hr)).1] at hgj;exact(hk0'.out j oj g (hE0 j oj hr) hgj).2 (ZU i oi g hi hq hgi)
   ·rw[(xq i hq).1] at hgi; rw[(xq j hr).1] at hgj;exact hk.sep i j oi oj g hij (he' i oi hi) (he' j oj hj) hgi hgj
 refine⟨v,t,E',rfl,rfl,⟨rfl,hfree,hpost⟩,KN hKN.no (eY hfree) hv,hk',H9,ER,T.aW (fun _ hf=>hf.elim) _ (eY hfree),fun i ob hi=>?_⟩;exact⟨.inl (hm i ob hi).1,T.aA (fun _ h=>.inl h) _ (hm i ob hi).2⟩
theorem Yy(l:List T):T.aO (fun _=>True) l:=cu.2 fun t _=>pF t
def MR:o8->Bool
 | .box .. =>true
 | .al .. =>true
 | .make .. =>true
 | .mmk .. =>true
 | .mso .. =>true
 | .ZM .. =>true
 |_=>false
def rV:o8->Bool
 | .call .. =>true
 | .oP .. =>true
 |_=>false
theorem bU{dr:Bool}{n:Nat}{d:Option Nat}{op:o8}(hq:dw op=true){K:AS->Prop}{s:AS}:nS P dr n d op K s↔qc s op/\K (s.put d (qt s op)):=by
 cases op<;>first|(simp[dw] at hq; done)|exact Iff.rfl
theorem ES{dr:Bool}{n:Nat}{d:Option Nat}{op:o8}(hc:rV op=true){K:AS->Prop}{s:AS} :
  nS P dr n d op K s↔ ∃ f ts,(∀ s':AS,(∀ x∈op.xs,s.ev x=s'.ev x)-> ∀ K':AS->Prop,qM P dr n d f ts K' s'->nS P dr n d op K' s')/\qM P dr n d f ts K s:=by
 cases op with
 |call f xs =>
  constructor
  ·intro h;refine⟨f,xs.map s.ev,fun s' hx K' h'=>?_,h⟩;simp only[nS];have e:xs.map s'.ev=xs.map s.ev:=ce fun x hx'=>(hx x hx').symm
   rw[e]; exact h'
  ·rintro⟨f',ts,h1,h2⟩; exact h1 s (fun _ _=>rfl) K h2
 |oP x xs =>
  constructor
  ·intro h;simp only[nS] at h;split at h
   ·rename_i f cap e1;cases hb:Nat.blt f 4096 with
    |true =>
     rw[hb] at h;refine⟨f,xs.map s.ev++cap,fun s' hx K' h'=>?_,h⟩;simp only[o8.xs,bv,fc] at hx;simp only[nS];have e:xs.map s'.ev=xs.map s.ev:=ce fun x hx'=>(hx.2 x hx').symm
     rw[<- hx.1,e1,e]; simp only[hb,bE]; exact h'
    |false =>
     rw[hb] at h;refine⟨f % 4096,.agg cap::xs.map s.ev,fun s' hx K' h'=>?_,h.2⟩;simp only[o8.xs,bv,fc] at hx;simp only[nS];have e:xs.map s'.ev=xs.map s.ev:=ce fun x hx'=>(hx.2 x hx').symm
     rw[<- hx.1,e1,e]; simp only[hb,ap]; exact⟨h.1,h'⟩
   ·exact h.elim
  ·rintro⟨f',ts,h1,h2⟩; exact h1 s (fun _ _=>rfl) K h2
 |_=>simp[rV] at hc
def qN(s:AS):o8->Ob
 | .box ty k x=>⟨ty,k,[s.ev x]⟩
 | .al ty k z=>⟨ty,k,[z]⟩
 | .make ty k _ z x _=>⟨ty,k,List.replicate (match s.ev x with| .lit (.int _ a)=>a.toNat|_=>0) z⟩
 | .mmk ty=>⟨ty,gK,[]⟩
 | .mso ty k z m ps=>⟨ty,k,wu (List.replicate m z) (ps.map fun p=>(p.1,s.ev p.2))⟩
 | .ZM ty k _ y=>⟨ty,k,match s.ev y with| .sl _ _ m=>m|_=>[]⟩
 |_=>⟨0,0,[]⟩
def Ia(n:Nat):o8->T
 | .make .. =>.own n
 | .mmk .. =>.own n
 | .mso .. =>.own n
 | .ZM .. =>.own n
 |_=>.ptr n 0 0
theorem ET{s s':AS}{op:o8}(h: ∀ x∈op.xs,s.ev x=s'.ev x):qN s op=qN s' op:=by
 cases op<;>simp only[qN]
 ·rename_i ty k x;rw[h x (by simp[o8.xs])]
 ·rename_i ty k b z x y;rw[h x (by simp[o8.xs])]
 ·rename_i ty k b y;rw[h y (by simp[o8.xs])]
 ·rename_i ty k z m ps;have e: ∀ p∈ps,s.ev p.2=s'.ev p.2:=fun p hp=>h _ (ax.2 ⟨p,hp,rfl⟩)
  rw[ce fun p hp=>by rw[e p hp]]
theorem Ib{dr:Bool}{n:Nat}{d:Option Nat}{op:o8}(hc:MR op=true){K:AS->Prop}{s:AS} :
  nS P dr n d op K s↔(∀ s':AS,(∀ x∈op.xs,s.ev x=s'.ev x)->Ak s.hp s'.hp-> ∀ K':AS->Prop,K' {(s'.put d (Ia n op)) with hp:=upd s'.hp n (some (qN s op))}->nS P dr n d op K' s') /\
   K {(s.put d (Ia n op)) with hp:=upd s.hp n (some (qN s op))}:=by
 cases op with
 |box ty k x =>
  constructor
  ·rintro⟨h1,h2⟩;refine⟨fun s' hx hh K' h'=>?_,h2⟩;have e:=hx x (by simp[o8.xs]);simp only[qN] at h';rw[e] at h1 h';simp only[aD] at h1;refine⟨?_,h'⟩;simp only[aD];exact⟨⟨h1.1.1,OM hh h1.1.2⟩,h1.2⟩
  ·rintro⟨h1,h2⟩; exact h1 s (fun _ _=>rfl) (fun _ _ h=>h) K h2
 |al ty k z =>
  constructor
  ·rintro⟨h1,h2⟩;refine⟨fun s' hx hh K' h'=>?_,h2⟩;simp only[aD] at h1;refine⟨?_,h'⟩;simp only[aD];exact⟨⟨⟨h1.1.1.1,OM hh h1.1.1.2⟩,h1.1.2⟩,h1.2⟩
  ·rintro⟨h1,h2⟩; exact h1 s (fun _ _=>rfl) (fun _ _ h=>h) K h2
 |make ty k bytes z x y =>
  constructor
  ·intro h;simp only[nS] at h;split at h
   ·rename_i k1 a k2 b e1 e2;obtain⟨h1,h2,h3⟩:=h;simp only[qN,e1,Ia];refine⟨fun s' hx hh K' h'=>?_,h3⟩;simp only[o8.xs,bv,dx,gp,fc,hJ] at hx;simp only[nS,<- hx.1,<- hx.2,e1,e2];simp only[aD] at h1 ⊢;exact⟨⟨⟨⟨h1.1.1.1,OM hh h1.1.1.2⟩,h1.1.2⟩,h1.2⟩,h2,h'⟩
   ·exact h.elim
  ·rintro⟨h1,h2⟩; exact h1 s (fun _ _=>rfl) (fun _ _ h=>h) K h2
 |mmk ty =>
  constructor
  ·intro h; exact⟨fun s' _ _ K' h'=>h',h⟩
  ·rintro⟨h1,h2⟩; exact h1 s (fun _ _=>rfl) (fun _ _ h=>h) K h2
 |ZM ty k bytes y =>
  constructor
  ·intro h;simp only[nS] at h;split at h
   ·rename_i k' f m e1;obtain⟨h1,h2,h3⟩:=h;simp only[qN,e1,Ia];refine⟨fun s' hx hh K' h'=>?_,h3⟩;have e:=hx y (by simp[o8.xs]);simp only[nS,<- e,e1];exact⟨h1,h2,h'⟩
   ·exact h.elim
  ·rintro⟨h1,h2⟩; exact h1 s (fun _ _=>rfl) (fun _ _ h=>h) K h2
 |mso ty k z m ps =>
  constructor
  ·rintro⟨h1,h2⟩;refine⟨fun s' hx hh K' h'=>?_,h2⟩;have e: ∀ p∈ps,s.ev p.2=s'.ev p.2:=fun p hp=>hx _ (ax.2 ⟨p,hp,rfl⟩)
   have e1:(ps.map fun p=>(p.1,s.ev p.2))=ps.map fun p=>(p.1,s'.ev p.2):=ce fun p hp=>by rw[e p hp]
   have e2:(ps.map fun p=>s.ev p.2)=ps.map fun p=>s'.ev p.2:=ce fun p hp=>e p hp
   simp only[qN] at h';rw[e1,e2] at h1;rw[e1] at h';simp only[aD] at h1;refine⟨?_,h'⟩;simp only[aD];obtain⟨⟨⟨⟨⟨g1,g2⟩,g3⟩,g4⟩,g5⟩,g6⟩:=h1;exact⟨⟨⟨⟨⟨g1,g2⟩,g3⟩,H7 hh.n (Yy _) g4⟩,g5⟩,g6⟩
  ·rintro⟨h1,h2⟩; exact h1 s (fun _ _=>rfl) (fun _ _ h=>h) K h2
 |_=>simp[MR] at hc
theorem uP{s:AS}{d:Option Nat}{t:T}{h:Hp}(e:h=s.hp):({(s.put d t) with hp:=h}:AS)=s.put d t:=by
 subst e; cases d<;>rfl
theorem TU{h:Hp}{n:Nat}{ob:Ob}(hn:h n=none):Ak h (upd h n (some ob)):=by
 intro o oo ho
 have:o≠n:=by rintro rfl; rw[hn] at ho; cases ho
 simp[upd,this,ho]
def Jm(n:Nat)(s:AS)(op:o8)(hp':Hp):Prop :=
 match op with
 | .st _ x _=> ∀ q,(∀ i j off,s.ev x= .ptr i j off->q≠i)->hp' q=s.hp q
 | .app _ _ _ x _=> ∀ q,q≠n->(∀ i,s.ev x= .own i->q≠i)->hp' q=s.hp q
 | .Vb _ x _ _=> ∀ q,(∀ i,s.ev x= .own i->q≠i)->hp' q=s.hp q
 | .ZN _ _ x=> ∀ q,(∀ i lo hi,s.ev x= .rG i lo hi->q≠i)->hp' q=s.hp q
 |op=>if MR op then ∀ q,q≠n->hp' q=s.hp q else hp'=s.hp
def Behind(dr:Bool)(n:Nat)(s:AS)(d:Option Nat)(op:o8)(s':AS):Prop :=
 ∃ hp',((rV op=true/\dr=false)\/Jm n s op hp')/\(s'= {s with hp:=hp'}\/ ∃ u,s'= {(s.put d u) with hp:=hp'})
theorem Behind.nx{dr:Bool}{n:Nat}{s:AS}{d:Option Nat}{op:o8}{s':AS}(h:Behind dr n s d op s'):s'.nx=s.nx:=by
 obtain⟨hp',_,rfl|⟨u,rfl⟩⟩:=h
 ·rfl
 ·exact fQ _ _ _
theorem Behind.ev{dr:Bool}{n:Nat}{s:AS}{d:Option Nat}{op:o8}{s':AS}(h:Behind dr n s d op s'){x:X}(hx: ∀ u,s.ev x=(s.put d u).ev x):s.ev x=s'.ev x:=by
 obtain⟨hp',_,rfl|⟨u,rfl⟩⟩:=h
 ·cases x<;>rfl
 ·rw[hx u]; cases x<;>rfl
theorem Behind.gv{dr:Bool}{n:Nat}{s:AS}{d:Option Nat}{op:o8}{s':AS}(h:Behind dr n s d op s'){g:Option (Nat×Bool)}(hx: ∀ u,gv g (s.put d u)=gv g s):gv g s'=gv g s:=by
 obtain⟨hp',_,rfl|⟨u,rfl⟩⟩:=h
 ·rfl
 ·rw[uf,hx]
theorem Behind.obj{dr:Bool}{n:Nat}{s:AS}{d:Option Nat}{op:o8}{s':AS}(h:Behind dr n s d op s'){m:Nat}(hx: ∀ u,(s.put d u).obj m=s.obj m):s'.obj m=s.obj m:=by
 obtain⟨hp',_,rfl|⟨u,rfl⟩⟩:=h
 ·rfl
 ·exact hx u
theorem Behind.heap{dr:Bool}{n:Nat}{s:AS}{d:Option Nat}{op:o8}{s':AS}(h:Behind dr n s d op s'):(rV op=true/\dr=false)\/Jm n s op s'.hp:=by
 obtain⟨hp',h1,rfl|⟨u,rfl⟩⟩:=h<;>exact h1
theorem ZV{n:Nat}{s:AS}{op:o8}(h:dw op=true\/rV op=true):Jm n s op s.hp:=by
 cases op<;>simp only[Jm,MR,cn,da,cW]<;>first|trivial|exact fun _ _=>rfl|exact fun _ _ _=>rfl|(simp[dw,rV] at h)
theorem F8{op:o8}{dr:Bool}(hdr:rV op=true\/dr=true){n:Nat}{d e:Option Nat}{t:T}{K:AS->Prop}{s:AS}(hx: ∀ x∈op.xs,s.ev x=(s.put e t).ev x)(hde: ∀ z,e=some z->d≠some z)(h:nS P dr n d op K (s.put e t)) :
  nS P dr n d op (fun s'=>Behind dr n s d op s'/\K (s'.put e t)) s:=by
 have hpp:(s.put e t).hp=s.hp:=rU _ _ _;have pc: ∀ u,(s.put e t).put d u=(s.put d u).put e t:=fun u=>put_comm hde
 have pch: ∀ u (h':Hp),({((s.put e t).put d u) with hp:=h'}:AS)=({(s.put d u) with hp:=h'}:AS).put e t:=fun u h'=>by
  rw[pc]; exact dI
 by_cases hq:dw op=true
 ·rw[bU hq] at h ⊢;obtain⟨q1,q2⟩:=GV (s:=s.put e t) (s':=s) hq (fun x hx'=>(hx x hx').symm) (by rw[hpp]; exact fun _ _ h=>h) h.1;refine⟨q1,⟨s.hp,.inr (ZV (.inl hq)),.inr ⟨_,(uP rfl).symm⟩⟩,?_⟩;rw[<- pc,q2]; exact h.2
 ·by_cases hc:rV op=true
  ·rw[ES hc] at h;obtain⟨f,ts,h1,h2⟩:=h;refine h1 s (fun x hx'=>(hx x hx').symm) _ ?_;unfold qM at h2 ⊢;rw[hpp] at h2;refine h2.mono fun u h' ⟨p1,p2⟩=>⟨p1,⟨h',?_,.inr ⟨u,rfl⟩⟩,?_⟩
   ·cases hdv:dr with
    |false=>exact .inl ⟨hc,rfl⟩
    |true=>rw[(p1 hdv).1]; exact .inr (ZV (.inr hc))
   ·rw[<- pch]; exact p2
  ·by_cases ha:MR op=true
   ·rw[Ib ha] at h;obtain⟨h1,h2⟩:=h;rw[<- ET hx] at h1 h2;refine h1 s (fun x hx'=>(hx x hx').symm) (by rw[hpp]; exact fun _ _ h=>h) _ ⟨⟨upd s.hp n _,.inr ?_,.inr ⟨_,rfl⟩⟩,?_⟩
    ·cases op<;>simp only[Jm,MR,cn]<;>first|(simp[MR] at ha; done)|(intro q hq'; simp[upd,hq']; done)
    ·rw[hpp,pch] at h2; exact h2
   ·cases op with
    |st k x v =>
     simp only[o8.xs,bv,dx,gp,fc,hJ] at hx;simp only[nS] at h ⊢;rw[<- hx.1,<- hx.2,hpp] at h;split at h
     ·rename_i i j off e1;split at h
      ·obtain⟨h1,h2,h3,h4⟩:=h;refine⟨h1,h2,h3,⟨_,.inr ?_,.inl rfl⟩,?_⟩
       ·simp only[Jm];intro q hq';have:=hq' i j off e1;simp[upd,this]
       ·rw[dI] at h4; exact h4
      ·exact h.elim
     ·exact h.elim
    |app ty k bytes x y =>
     simp only[o8.xs,bv,dx,gp,fc,hJ] at hx;simp only[nS] at h ⊢;rw[<- hx.1,<- hx.2,hpp] at h;split at h
     ·split at h
      ·rename_i e1;obtain⟨h1,h2,h3,h4,h5⟩:=h;refine⟨h1,.inl (h2.resolve_right fun q=>by rcases hdr with e|e<;>first|(cases e; done)|(rw[e] at q; cases q.1)),h3,h4,⟨_,.inr ?_,.inr ⟨_,rfl⟩⟩,?_⟩
       ·simp only[Jm]; intro q hq' _; simp[upd,hq']
       ·rw[<- pch]; exact h5
      ·rename_i o e1;split at h
       ·obtain⟨h1,h2,h3,h4⟩:=h;refine⟨h1,h2,h3,⟨_,.inr ?_,.inr ⟨_,rfl⟩⟩,?_⟩
        ·simp only[Jm]; intro q hq' ho; simp[upd,hq',ho o e1]
        ·rw[<- pch]; exact h4
       ·exact h.elim
      ·exact h.elim
     ·exact h.elim
    |Vb b x i v =>
     simp only[o8.xs,bv,dx,gp,fc,hJ] at hx;simp only[nS] at h ⊢;rw[<- hx.1,<- hx.2.1,<- hx.2.2,hpp] at h;split at h
     ·rename_i o m e1 e2;split at h
      ·obtain⟨h1,hk,h2,h3⟩:=h;refine⟨h1,hk,h2,⟨_,.inr ?_,.inl rfl⟩,?_⟩
       ·simp only[Jm];intro q hq';have:=hq' o e1;simp[upd,this]
       ·rw[dI] at h3; exact h3
      ·exact h.elim
     ·exact h.elim
    |bot=>exact h.elim
    |ZN k z x =>
     simp only[o8.xs,bv,dx,gp,hJ] at hx;simp only[nS] at h ⊢;rw[<- hx,hpp] at h;split at h
     ·rename_i i lo hi e1;split at h
      ·obtain⟨h1,h2,h3⟩:=h;refine⟨h1,h2,⟨_,.inr ?_,.inr ⟨_,rfl⟩⟩,?_⟩
       ·simp only[Jm];intro q hq';have:=hq' i lo hi e1;simp[upd,this]
       ·rw[<- pch]; exact h3
      ·exact h.elim
     ·exact h.elim
    |Gz x =>
     simp only[o8.xs,bv,dx,gp,hJ] at hx;simp only[nS] at h ⊢;rw[<- hx,hpp] at h;have key: ∀ b,K ((s.put e t).put d (.lit (.bool b)))->(fun s'=>Behind dr n s d (.Gz x) s'/\K (s'.put e t)) (s.put d (.lit (.bool b))):=fun b hb =>
      ⟨⟨s.hp,.inr rfl,.inr ⟨_,(uP rfl).symm⟩⟩,by rw[<- pc]; exact hb⟩
     split at h
     ·exact⟨fun hl=>key _ (h.1 hl),key _ h.2⟩
     ·split at h
      ·exact⟨fun hl=>key _ (h.1 hl),key _ h.2.1,h.2.2⟩
      ·exact h.elim
     ·exact h.elim
    |_=>first|exact absurd rfl hq|exact absurd rfl hc|exact absurd rfl ha
def qOk(j i:aT):Bool :=
 zQ j.op||match i.op with
 | .st _ x _=>(j.fl&&i.fl)||(match x with| .t m=>Nat.blt m 1000000&&j.ne.contains m| .c _=>false)
 | .app .. =>(j.fl&&i.fl)||(j.ne.contains 1000000&&i.ne.contains 1000001)
 | .Vb .. =>false
 | .ZN .. =>false
 | .call .. => !i.fl
 | .oP .. => !i.fl
 |_=>true
def Cm:o8->Bool
 | .al .. =>true
 | .make .. =>true
 | .ZM .. =>true
 |_=>false
theorem Jo{op:o8}(h:Cm op=true):MR op=true:=by cases op<;>first|rfl|(simp[Cm] at h)
def Jp(j i:aT):Bool :=
 zS j i&&((dw j.op&&qOk j i)||(rV j.op&&dw i.op&&(!j.fl||zQ i.op))||(rV j.op&&MR i.op&& !j.fl) ||
  (Cm j.op&&Cm i.op))
def Ic(j i:aT):Bool :=
 bif j.ar then zS j i&& !i.ad&& !i.ar&&((dw i.op&&zQ i.op)||Cm i.op) else bif i.ar then zS j i&&dw j.op&& !j.ad else
 bif j.ad then zS j i&&rV j.op&&dw i.op&&zQ i.op&& !i.ad else bif i.ad then zS j i&&dw j.op&&rV i.op else Jp j i
theorem abI{j i:aT}{ni:Nat}{s s':AS}{d:Option Nat}(hok:qOk j i=true)(hnf:zQ j.op=false)(hq:dw j.op=true)(hni:s.nx<=ni)(hfresh:dw i.op=true\/s.hp ni=none)(fj:lH j s)(fi:lH i s)(hB:Behind (i.dr true) ni s d i.op s') :
  ∃ N:Nat->Prop,(∀ x∈j.op.xs,(s.ev x).ids N)/\TT N s.hp s'.hp:=by
 have hh:Jm ni s i.op s'.hp:=by
  rcases hB.heap with ⟨h1,h2⟩|h
  ·exfalso;simp only[qOk,hnf,cz] at hok;unfold aT.dr at h2;cases hop:i.op<;>rw[hop] at h1 hok h2<;>first|(simp[rV] at h1; done)|(simp only at hok h2; rw[hok] at h2; cases h2)
  ·exact h
 clear hB;have hlow:j.fl=true-> ∀ x∈j.op.xs,(s.ev x).ids (· <s.nx):=by
  intro hf x hx;have h1:=fj.1 hf;have h2:(j.op.xs.all fun x=>T.lt s.nx (s.ev x))=true:=by
   cases hop:j.op<;>rw[hop] at h1 hq<;>first|exact h1|(simp[dw] at hq)
  exact KX (bj.1 h2 x hx)
 cases hop:i.op with
 |st k x v =>
  rw[hop] at hh;simp only[Jm] at hh;simp only[qOk,hnf,cz,hop,cY,aD] at hok;rcases hok with ⟨h1,h2⟩|h1
  ·have hfi:=fi.1 h2;simp only[hop] at hfi;refine⟨(· <s.nx),hlow h1,fun o ob ho hob=>?_⟩;rw[hh o ?_]; exact hob;intro i' j' off e1 heq;rw[e1] at hfi;simp only[T.newer,ff] at hfi;omega
  ·cases x with
   |c v=>cases h1
   |t m =>
    simp only[aD,List.contains_iff_mem] at h1;obtain⟨b,hb,Aj⟩:=abH fj.2 m h1.2 h1.1;refine⟨(· ≠b),Aj,fun o ob ho hob=>?_⟩;rw[hh o ?_]; exact hob;intro i' j' off e1 heq;subst heq
    have:s.obj m=some o:=by
     unfold AS.obj;have e2:s.fr.getD m .any= .ptr o j' off:=by
      have:s.fr.getD m T.un= .ptr o j' off:=e1
      rw[ab] at this ⊢;cases hg:s.fr[m]? with
      |none=>rw[hg] at this; simp at this
      |some u=>rw[hg] at this; simpa using this
     rw[e2]
    rw[this] at hb; cases hb; exact ho rfl
 |app ty k bytes x y =>
  rw[hop] at hh;simp only[Jm] at hh;simp only[qOk,hnf,cz,hop,cY,aD,List.contains_iff_mem] at hok;rcases hok with hok|⟨k1,k2⟩
  ·have hfi:=fi.1 hok.2;simp only[hop] at hfi;refine⟨(· <s.nx),hlow hok.1,fun o ob ho hob=>?_⟩;rw[hh o (by omega) ?_]; exact hob;intro i' e1 heq;rw[e1] at hfi;simp only[T.newer,ff] at hfi;omega
  ·have hfi:=fi.2;rw[hop] at hfi;have hfi:=ad8 (x:=x) (r:=[y]) hfi k2;refine⟨(· <10000),ad7 fj.2 k1,fun o ob ho hob=>?_⟩;rw[hh o ?_ ?_]; exact hob
   ·rintro rfl;rcases hfresh with hfr|hfr
    ·rw[hop] at hfr; simp[dw] at hfr
    ·rw[hfr] at hob; cases hob
   ·intro i' e1 heq;rw[e1] at hfi;simp only[T.newer,ff] at hfi;omega
 |Vb b x i' v =>
  simp only[qOk,hnf,cz,hop] at hok;cases hok
 |ZN k z x =>
  simp only[qOk,hnf,cz,hop] at hok;cases hok
 |_ =>
  rw[hop] at hh;simp only[Jm,MR,cn,da,cW] at hh;refine⟨fun _=>True,fun _ _=>pF _,fun o ob _ hob=>?_⟩;first
   |(rw[hh o (by
     rintro rfl;rcases hfresh with hfr|hfr
     ·rw[hop] at hfr; simp[dw] at hfr
     ·rw[hfr] at hob; cases hob)]; exact hob)
   |(rw[hh]; exact hob)
theorem ZW{h h':Hp}{z:T}(hf:z.free=true)(hs:z.nR h=true):z.nR h'=true:=by
 cases z<;>simp_all[T.free,T.nR,T.Ai]
theorem iM(s:AS)(d:Option Nat)(t:T):(s.put d t).pin=s.pin:=by cases d<;>rfl
theorem mP{dr:Bool}{n:Nat}{d:Option Nat}{op:o8}{K K':AS->Prop}{s:AS}(hK: ∀ s',s'.nx=s.nx->s'.pin=s.pin->K s'->K' s')(h:nS P dr n d op K s):nS P dr n d op K' s:=by
 by_cases hq:dw op=true
 ·rw[bU hq] at h ⊢; exact⟨h.1,hK _ (fQ _ _ _) (iM _ _ _) h.2⟩
 ·cases op with
  |box ty k x=>exact⟨h.1,hK _ (fQ _ _ _) (iM _ _ _) h.2⟩
  |al ty k z=>exact⟨h.1,hK _ (fQ _ _ _) (iM _ _ _) h.2⟩
  |make ty k bytes z x y =>
   simp only[nS] at h ⊢;split at h
   ·exact⟨h.1,h.2.1,hK _ (fQ _ _ _) (iM _ _ _) h.2.2⟩
   ·exact h.elim
  |st k x v =>
   simp only[nS] at h ⊢;split at h
   ·split at h
    ·exact⟨h.1,h.2.1,h.2.2.1,hK _ rfl rfl h.2.2.2⟩
    ·exact h.elim
   ·exact h.elim
  |app ty k bytes x y =>
   simp only[nS] at h ⊢;split at h
   ·split at h
    ·exact⟨h.1,h.2.1.imp id (fun q=>⟨q.1,hK _ (fQ _ _ _) (iM _ _ _) q.2⟩),h.2.2.1,h.2.2.2.1,hK _ (fQ _ _ _) (iM _ _ _) h.2.2.2.2⟩
    ·split at h
     ·exact⟨h.1,h.2.1,h.2.2.1,hK _ (fQ _ _ _) (iM _ _ _) h.2.2.2⟩
     ·exact h.elim
    ·exact h.elim
   ·exact h.elim
  |mmk ty=>exact hK _ (fQ _ _ _) (iM _ _ _) h
  |Vb b x i v =>
   simp only[nS] at h ⊢;split at h
   ·split at h
    ·exact⟨h.1,h.2.1,h.2.2.1,hK _ rfl rfl h.2.2.2⟩
    ·exact h.elim
   ·exact h.elim
  |bot=>exact h.elim
  |ZN k z x =>
   simp only[nS] at h ⊢;split at h
   ·split at h
    ·exact⟨h.1,h.2.1,hK _ (fQ _ _ _) (iM _ _ _) h.2.2⟩
    ·exact h.elim
   ·exact h.elim
  |Gz x =>
   simp only[nS] at h ⊢;split at h
   ·exact⟨fun hl=>hK _ (fQ _ _ _) (iM _ _ _) (h.1 hl),hK _ (fQ _ _ _) (iM _ _ _) h.2⟩
   ·split at h
    ·exact⟨fun hl=>hK _ (fQ _ _ _) (iM _ _ _) (h.1 hl),hK _ (fQ _ _ _) (iM _ _ _) h.2.1,h.2.2⟩
    ·exact h.elim
   ·exact h.elim
  |call f xs=>exact aP.mono h fun t h' ⟨p1,p2⟩=>⟨p1,hK _ (fQ _ _ _) (iM _ _ _) p2⟩
  |oP x xs =>
   simp only[nS] at h ⊢;split at h
   ·rename_i f cap e1;cases hb:Nat.blt f 4096 with
    |true=>simp only[hb,bE] at h ⊢; exact aP.mono h fun t h' ⟨p1,p2⟩=>⟨p1,hK _ (fQ _ _ _) (iM _ _ _) p2⟩
    |false=>simp only[hb,ap] at h ⊢; exact⟨h.1,aP.mono h.2 fun t h' ⟨p1,p2⟩=>⟨p1,hK _ (fQ _ _ _) (iM _ _ _) p2⟩⟩
   ·exact h.elim
  |mso ty k z m ps=>exact⟨h.1,hK _ (fQ _ _ _) (iM _ _ _) h.2⟩
  |ZM ty k bytes y =>
   simp only[nS] at h ⊢;split at h
   ·exact⟨h.1,h.2.1,hK _ (fQ _ _ _) (iM _ _ _) h.2.2⟩
   ·exact h.elim
  |_=>exact absurd rfl hq
theorem abJ{j i:aT}{nj ni:Nat}(h:Jp j i=true){K:AS->Prop}{s:AS}(hne:nj≠ni)(hni:s.nx<=ni)(hfr:(dw i.op=true/\zQ i.op=true)\/(s.hp ni=none/\ ∀ q ob,s.hp q=some ob->T.aO (· ≠ni) ob.l))
  (H:OO P true nj j (OO P true ni i K) s):OO P true ni i (OO P true nj j K) s:=by
 simp only[Jp,aD] at h;obtain⟨hap,hk⟩:=h;have A:=xY hap;have gj: ∀ t,gv i.g (s.put j.d t)=gv i.g s:=fun t=>Bz A.ji
 have gi: ∀ t,gv j.g (s.put i.d t)=gv j.g s:=fun t=>Bz A.ij
 have xj: ∀ t,∀ x∈i.op.xs,s.ev x=(s.put j.d t).ev x:=fun t=>iZ A.ji
 have xi: ∀ t,∀ x∈j.op.xs,s.ev x=(s.put i.d t).ev x:=fun t=>iZ A.ij
 have oi: ∀ t,∀ m∈j.ne,(s.put i.d t).obj m=s.obj m:=fun t=>ND A.ij
 have pc: ∀ t u,(s.put j.d t).put i.d u=(s.put i.d u).put j.d t:=fun t u=>put_comm A.dd
 have hpp: ∀ d t,(s.put d t).hp=s.hp:=fun d t=>rU s d t
 have he: ∀ d t,Ak s.hp (s.put d t).hp:=fun d t=>by rw[hpp]; exact fun _ _ h=>h
 have he': ∀ d t,Ak (s.put d t).hp s.hp:=fun d t=>by rw[hpp]; exact fun _ _ h=>h
 have hdd: ∀ z,j.d=some z->i.d≠some z:=fun z hz=>A.dd z hz
 simp only[cY,aD] at hk;have hdi:rV i.op=true\/i.dr true=true:=by
  unfold aT.dr;cases i.op<;>first|exact .inr rfl|exact .inl rfl
 have ahk:dw i.op=true\/s.hp ni=none:=hfr.imp (fun h=>h.1) fun h=>h.1
 rcases H with ⟨hgj,fj,H⟩|⟨hgj,H⟩
 rotate_left
 ·
  rcases H with ⟨hgi,fi,H⟩|⟨hgi,H⟩
  ·rw[gj] at hgi;refine .inl ⟨hgi,kV A.ji fi,mP (fun s' _ _ ⟨hB,hK⟩=>?_) (F8 hdi (xj _) hdd H)⟩;exact .inr ⟨by rw[hB.gv gi]; exact hgj,hK⟩
  ·rw[gj] at hgi;refine .inr ⟨hgi,.inr ⟨by rw[gi]; exact hgj,?_⟩⟩;rw[<- pc]; exact H
 ·rcases hk with ((⟨hqj,hok⟩|⟨⟨hcj,hqi⟩,hfl⟩)|⟨⟨hcj,hai⟩,hfl⟩)|⟨haj,hai⟩
  ·
   rw[bU hqj] at H;obtain⟨hq,H⟩:=H;rcases H with ⟨hgi,fi,H⟩|⟨hgi,H⟩
   ·rw[gj] at hgi;have fi':=kV A.ji fi;refine .inl ⟨hgi,fi',mP (fun s' _ _ ⟨hB,hK⟩=>?_) (F8 hdi (xj _) hdd H)⟩;have hev: ∀ x∈j.op.xs,s.ev x=s'.ev x:=fun x hx=>hB.ev fun u=>xi u x hx
    obtain⟨r1,r2⟩:qc s' j.op/\qt s' j.op=qt s j.op:=by
     cases hnf:zQ j.op with
     |true=>exact Yu hnf hev hq
     |false =>
      obtain⟨N,hN,hX⟩:=abI hok hnf hqj hni ahk fj fi' hB;exact ad6 hqj hev hN hX hq
    refine .inl ⟨by rw[hB.gv gi]; exact hgj,zT hev (fun m hm=>hB.obj fun u=>oi u m hm) hB.nx fj,(bU hqj).2 ⟨r1,?_⟩⟩;rw[r2]; exact hK
   ·rw[gj] at hgi;refine .inr ⟨hgi,.inl ⟨by rw[gi]; exact hgj,kM A.ij fj,(bU hqj).2 ?_⟩⟩;obtain⟨r1,r2⟩:=GV hqj (xi T.un) (he _ _) hq;refine⟨r1,?_⟩;rw[r2,<- pc]; exact H
  ·
   rw[ES hcj] at H;obtain⟨f,ts,h1,h2⟩:=H;cases hjf:j.fl with
   |true =>
    have hHF:zQ i.op=true:=by
     rcases hfl with h|h
     ·rw[hjf] at h; cases h
     ·exact h
    unfold qM at h2;obtain⟨⟨t0,h0,⟨e0,hG⟩⟩,_,_⟩:=id h2;rcases hG with ⟨hgi,fi,hG⟩|⟨hgi,hG⟩
    ·rw[uf,gj] at hgi;rw[bU hqi] at hG;have hev: ∀ x∈i.op.xs,({(s.put j.d t0) with hp:=h0}:AS).ev x=s.ev x:=fun x hx=>by rw[xj t0 x hx]; cases x<;>rfl
     obtain⟨q1,_⟩:=Yu hHF hev hG.1;have fi0:lH i s:=by
      have h:=AQ (h:=s.hp) fi;have e:({({(s.put j.d t0) with hp:=h0}:AS) with hp:=s.hp}:AS)=s.put j.d t0:=uP rfl;rw[e] at h;exact kV A.ji h
     refine .inl ⟨hgi,fi0,(bU hqi).2 ⟨q1,.inl ⟨by rw[gi]; exact hgj,kM A.ij fj,h1 _ (xi _) _ ?_⟩⟩⟩;unfold qM;rw[hpp];refine h2.mono fun t h' ⟨p1,p2⟩=>⟨p1,?_⟩
     rcases p2 with ⟨_,_,p2⟩|⟨p3,_⟩
     ·rw[bU hqi] at p2;have akf: ∀ x∈i.op.xs,({(s.put j.d t) with hp:=h'}:AS).ev x=s.ev x:=fun x hx=>by rw[xj t x hx]; cases x<;>rfl
      obtain⟨_,q2⟩:=Yu hHF akf p2.1;have p2':=p2.2;rw[<- q2] at p2';rw[dI] at p2';rw[dI,dI,<- put_comm A.dd];exact p2'
     ·rw[uf,gj,hgi] at p3; cases p3
    ·rw[uf,gj] at hgi;refine .inr ⟨hgi,.inl ⟨by rw[gi]; exact hgj,kM A.ij fj,h1 _ (xi _) _ ?_⟩⟩;unfold qM;rw[hpp];refine h2.mono fun t h' ⟨p1,p2⟩=>⟨p1,?_⟩
     rcases p2 with ⟨p3,_⟩|⟨_,p2⟩
     ·rw[uf,gj,hgi] at p3; cases p3
     ·rw[dI] at p2;rw[dI,dI,<- put_comm A.dd];exact p2
   |false =>
   have hjd:j.dr true=true:=by
    unfold aT.dr; rw[hjf]; cases j.op<;>rfl
   unfold qM at h2;obtain⟨⟨t0,h0,⟨e0,hG⟩⟩,_,_⟩:=id h2;rw[uP (e0 hjd).1] at hG;rcases hG with ⟨hgi,fi,hG⟩|⟨hgi,hG⟩
   ·rw[gj] at hgi;rw[bU hqi] at hG;obtain⟨q1,_⟩:=GV hqi (fun x hx=>(xj _ x hx).symm) (he' _ _) hG.1;refine .inl ⟨hgi,kV A.ji fi,(bU hqi).2 ⟨q1,.inl ⟨by rw[gi]; exact hgj,kM A.ij fj,h1 _ (xi _) _ ?_⟩⟩⟩;unfold qM;rw[hpp];refine h2.mono fun t h' ⟨p1,p2⟩=>⟨p1,?_⟩
    have hh:=(p1 hjd).1;rw[uP hh] at p2;rw[uP (by rw[hpp]; exact hh)];rcases p2 with ⟨_,_,p2⟩|⟨p3,_⟩
    ·rw[bU hqi] at p2;obtain⟨_,q2⟩:=GV hqi (fun x hx=>(xj _ x hx).symm) (he' _ _) p2.1;rw[<- pc,q2]; exact p2.2
    ·rw[gj,hgi] at p3; cases p3
   ·rw[gj] at hgi;refine .inr ⟨hgi,.inl ⟨by rw[gi]; exact hgj,kM A.ij fj,h1 _ (xi _) _ ?_⟩⟩;unfold qM;rw[hpp];refine h2.mono fun t h' ⟨p1,p2⟩=>⟨p1,?_⟩
    have hh:=(p1 hjd).1;rw[uP hh] at p2;rw[uP (by rw[hpp]; exact hh)];rcases p2 with ⟨p3,_⟩|⟨_,p2⟩
    ·rw[gj,hgi] at p3; cases p3
    ·rw[<- pc]; exact p2
  ·
   obtain⟨hfresh,al3⟩:=hfr.resolve_left fun h=>by
    cases hop:i.op<;>rw[hop] at hai h<;>first|(simp[MR] at hai; done)|(simp[dw] at h)
   rw[ES hcj] at H;obtain⟨f,ts,h1,h2⟩:=H;have hjd:j.dr true=true:=by
    have hjf:j.fl=false:=by simpa using hfl
    unfold aT.dr; rw[hjf]; cases j.op<;>rfl
   unfold qM at h2;obtain⟨⟨t0,h0,⟨e0,hG⟩⟩,_,_⟩:=id h2;rw[uP (e0 hjd).1] at hG;rcases hG with ⟨hgi,fi,hG⟩|⟨hgi,hG⟩
   ·rw[gj] at hgi;rw[Ib hai] at hG;obtain⟨g1,g2⟩:=hG;rw[<- ET (xj t0)] at g1 g2;generalize hob:qN s i.op=ob at g1 g2;refine .inl ⟨hgi,kV A.ji fi,g1 s (fun x hx=>(xj _ x hx).symm) (he' _ _) _ (.inl ⟨by rw[uf,gi]; exact hgj,AQ (kM A.ij fj),?_⟩)⟩;refine h1 _ (fun x hx=>by rw[xi (Ia ni i.op) x hx]; cases x<;>rfl) _ ?_;unfold qM;have h3:aP P f ts s.hp nj fun t h'=>h'=s.hp/\t.free=true/\K {((s.put j.d t).put i.d (Ia ni i.op)) with hp:=upd s.hp ni (some ob)}:=by
     refine h2.mono fun t h' ⟨p1,p2⟩=>⟨(p1 hjd).1,(p1 hjd).2,?_⟩
     rw[uP (p1 hjd).1] at p2;rcases p2 with ⟨_,_,p2⟩|⟨p3,_⟩
     ·rw[Ib hai] at p2;obtain⟨_,k2⟩:=p2;rw[<- ET (xj t),hob,hpp] at k2; exact k2
     ·rw[gj,hgi] at p3; cases p3
    refine(h3.frame (TU (ob:=ob) hfresh) fun q oq hq=>?_).mono fun t h' ⟨p1,p2,p3⟩=>⟨fun _=>⟨p1,p2⟩,?_⟩
    ·refine T.aA (fun m hm hs=>?_) _ (al3 q oq hq);simpa [upd,hm] using hs
    ·subst p1;rw[pc] at p3;rw[dI];rw[dI] at p3;exact p3
   ·rw[gj] at hgi;refine .inr ⟨hgi,.inl ⟨by rw[gi]; exact hgj,kM A.ij fj,h1 _ (xi _) _ ?_⟩⟩;unfold qM;rw[hpp];refine h2.mono fun t h' ⟨p1,p2⟩=>⟨p1,?_⟩
    have hh:=(p1 hjd).1;rw[uP hh] at p2;rw[uP (by rw[hpp]; exact hh)];rcases p2 with ⟨p3,_⟩|⟨_,p2⟩
    ·rw[gj,hgi] at p3; cases p3
    ·rw[<- pc]; exact p2
  ·
   obtain⟨hfresh,al3⟩:=hfr.resolve_left fun h=>by
    cases hop:i.op<;>rw[hop] at hai h<;>first|(simp[Cm] at hai; done)|(simp[dw] at h)
   have anB:MR i.op=true:=Jo hai;rw[Ib (Jo haj)] at H;obtain⟨h1,h2⟩:=H;have Yz: ∀ x∈i.op.xs,s.ev x=({(s.put j.d (Ia nj j.op)) with hp:=upd s.hp nj (some (qN s j.op))}:AS).ev x:=fun x hx=>by rw[xj (Ia nj j.op) x hx]; cases x<;>rfl
   rcases h2 with ⟨hgi,fi,h2⟩|⟨hgi,h2⟩
   ·rw[uf,gj] at hgi
    have fi':lH i s:=kV A.ji (AQ (h:=s.hp) fi |> fun h=>by
     have e:({({(s.put j.d (Ia nj j.op)) with hp:=upd s.hp nj (some (qN s j.op))}:AS) with hp:=s.hp}:AS)=s.put j.d (Ia nj j.op):=by
      show({(s.put j.d (Ia nj j.op)) with hp:=s.hp}:AS)=_;exact uP rfl
     rw[e] at h; exact h)
    refine .inl ⟨hgi,fi',?_⟩;have hob:=ET (op:=i.op) Yz;have key: ∀ K':AS->Prop,K' {(s.put i.d (Ia ni i.op)) with hp:=upd s.hp ni (some (qN s i.op))}->nS P (i.dr true) ni i.d i.op K' s:=by
     intro K' hK';cases hop:i.op with
     |al ty k z =>
      rw[hop] at h2 hK';obtain⟨g1,g2⟩:=h2;refine⟨?_,hK'⟩;simp only[aD] at g1 ⊢;exact⟨⟨⟨g1.1.1.1,ZW g1.1.2 g1.1.1.2⟩,g1.1.2⟩,g1.2⟩
     |make ty k bytes z x y =>
      rw[hop] at h2 hK' Yz;simp only[o8.xs,bv,dx,gp,fc,hJ] at Yz;simp only[nS,<- Yz.1,<- Yz.2] at h2 ⊢;split at h2
      ·rename_i k1 a k2 b e1 e2;obtain⟨g1,g2,g3⟩:=h2;simp only[qN,e1,Ia] at hK';refine⟨?_,g2,hK'⟩;simp only[aD] at g1 ⊢;exact⟨⟨⟨g1.1.1.1,ZW g1.1.2 g1.1.1.2⟩,g1.1.2⟩,g1.2⟩
      ·exact h2.elim
     |ZM ty k bytes y =>
      rw[hop] at h2 hK' Yz;have ey:=Yz y (by simp[o8.xs]);simp only[nS,<- ey] at h2 ⊢;split at h2
      ·rename_i k' f m e1;simp only[qN,e1,Ia] at hK';exact⟨h2.1,h2.2.1,hK'⟩
      ·exact h2.elim
     |_=>rw[hop] at hai; cases hai
    rw[Ib anB] at h2;obtain⟨_,h2⟩:=h2;refine key _ (.inl ⟨by rw[uf,gi]; exact hgj,AQ (kM A.ij fj),h1 _ (fun x hx=>by rw[xi (Ia ni i.op) x hx]; cases x<;>rfl) (TU hfresh) _ ?_⟩);rw[<- hob] at h2;have e1:upd (upd s.hp nj (some (qN s j.op))) ni (some (qN s i.op))=upd (upd s.hp ni (some (qN s i.op))) nj (some (qN s j.op)):=by
     funext q;simp only[upd];by_cases h1:q=ni<;>by_cases h2:q=nj<;>simp_all
    have e2: ∀ (a b:Hp),({(({(s.put j.d (Ia nj j.op)) with hp:=a}:AS).put i.d (Ia ni i.op)) with hp:=b}:AS)= {(({(s.put i.d (Ia ni i.op)) with hp:=a}:AS).put j.d (Ia nj j.op)) with hp:=b}:=by
     intro a b;rw[dI,dI,<- dI,<- dI];have:=pc (Ia nj j.op) (Ia ni i.op);cases hjd:j.d<;>cases hid:i.d<;>rw[hjd,hid] at this<;>simp only[AS.put] at this ⊢ <;>simp_all
    simp only at h2;rw[e1] at h2;have e3:=e2 (upd s.hp nj (some (qN s j.op))) (upd (upd s.hp ni (some (qN s i.op))) nj (some (qN s j.op)));rw[e3] at h2;have e4: ∀ (a a' b:Hp),({(({(s.put i.d (Ia ni i.op)) with hp:=a}:AS).put j.d (Ia nj j.op)) with hp:=b}:AS)= {(({(s.put i.d (Ia ni i.op)) with hp:=a'}:AS).put j.d (Ia nj j.op)) with hp:=b}:=by
     intro a a' b; cases j.d<;>rfl
    rw[e4 _ (upd s.hp ni (some (qN s i.op)))] at h2;exact h2
   ·rw[uf,gj] at hgi;refine .inr ⟨hgi,.inl ⟨by rw[gi]; exact hgj,kM A.ij fj,h1 _ (xi _) (he _ _) _ ?_⟩⟩;rw[hpp,<- pc];rw[<- dI] at h2;exact h2
theorem CB{dr:Bool}{n:Nat}{o:aT}(hm:o.ad=false){K:AS->Prop}{s:AS}:Yv P dr n o K s↔OO P dr n o K s:=by
 constructor
 ·rintro(⟨h1,h0,h2⟩|h)
  ·exact .inl ⟨h1,h0,mP (fun s' _ _ h=>h.2) h2⟩
  ·exact .inr h
 ·rintro(⟨h1,h0,h2⟩|h)
  ·exact .inl ⟨h1,h0,mP (fun s' _ _ h=>⟨fun e=>(by rw[hm] at e; cases e),h⟩) h2⟩
  ·exact .inr h
theorem KY{dr:Bool}{n:Nat}{o:aT}{K K':AS->Prop}{s:AS}(hK: ∀ s',s'.nx=s.nx->s'.pin=s.pin->K s'->K' s')(h:OO P dr n o K s):OO P dr n o K' s:=by
 rcases h with ⟨h1,h0,h2⟩|⟨h1,h2⟩
 ·exact .inl ⟨h1,h0,mP hK h2⟩
 ·exact .inr ⟨h1,hK _ (fQ _ _ _) (iM _ _ _) h2⟩
theorem swap_mk{j i:aT}{nj ni:Nat}(hap:zS j i=true)(hqj:dw j.op=true)(hci:rV i.op=true)(hmj:j.ad=false)(KU:i.ad=true){K:AS->Prop}{s:AS}(H:Yv P true nj j (Yv P true ni i K) s):Yv P true ni i (Yv P true nj j K) s:=by
 have A:=xY hap;have gj: ∀ t,gv i.g (s.put j.d t)=gv i.g s:=fun t=>Bz A.ji
 have gi: ∀ t,gv j.g (s.put i.d t)=gv j.g s:=fun t=>Bz A.ij
 have xj: ∀ t,∀ x∈i.op.xs,s.ev x=(s.put j.d t).ev x:=fun t=>iZ A.ji
 have xi: ∀ t,∀ x∈j.op.xs,s.ev x=(s.put i.d t).ev x:=fun t=>iZ A.ij
 have oi: ∀ t,∀ m∈j.ne,(s.put i.d t).obj m=s.obj m:=fun t=>ND A.ij
 have pc: ∀ t u,(s.put j.d t).put i.d u=(s.put i.d u).put j.d t:=fun t u=>put_comm A.dd
 have hpp: ∀ d t,(s.put d t).hp=s.hp:=fun d t=>rU s d t
 have he: ∀ d t,Ak s.hp (s.put d t).hp:=fun d t=>by rw[hpp]; exact fun _ _ h=>h
 have hdd: ∀ z,j.d=some z->i.d≠some z:=fun z hz=>A.dd z hz
 have nmj: ∀ {p:Prop},j.ad=true->p:=fun e=>by rw[hmj] at e; cases e
 rcases H with ⟨hgj,fj,H⟩|⟨hgj,H⟩
 rotate_left
 ·
  rcases H with ⟨hgi,fi,H⟩|⟨hgi,H⟩
  ·rw[gj] at hgi;refine .inl ⟨hgi,kV A.ji fi,mP (fun s' _ _ ⟨hB,hM,hK⟩=>?_) (F8 (.inl hci) (xj _) hdd H)⟩;refine⟨fun e=>?_,.inr ⟨by rw[hB.gv gi]; exact hgj,hK⟩⟩;have:=hM e;rw[hpp,rU] at this; exact this
  ·rw[gj] at hgi;refine .inr ⟨hgi,.inr ⟨by rw[gi]; exact hgj,?_⟩⟩;rw[<- pc]; exact H
 ·rw[bU hqj] at H;obtain⟨hq,_,H⟩:=H;rcases H with ⟨hgi,fi,H⟩|⟨hgi,H⟩
  ·rw[gj] at hgi;have fi':=kV A.ji fi;refine .inl ⟨hgi,fi',mP (fun s' _ _ ⟨hB,hM,hK⟩=>?_) (F8 (.inl hci) (xj _) hdd H)⟩;have hev: ∀ x∈j.op.xs,s.ev x=s'.ev x:=fun x hx=>hB.ev fun u=>xi u x hx
   have hX:Ak s.hp s'.hp:=by
    have:=hM KU;rw[hpp,rU] at this; exact this
   obtain⟨r1,r2⟩:=GV hqj hev hX hq;refine⟨fun _=>hX,.inl ⟨by rw[hB.gv gi]; exact hgj,zT hev (fun m hm=>hB.obj fun u=>oi u m hm) hB.nx fj,(bU hqj).2 ⟨r1,nmj,?_⟩⟩⟩;rw[r2]; exact hK
  ·rw[gj] at hgi;refine .inr ⟨hgi,.inl ⟨by rw[gi]; exact hgj,kM A.ij fj,(bU hqj).2 ?_⟩⟩;obtain⟨r1,r2⟩:=GV hqj (xi T.un) (he _ _) hq;refine⟨r1,nmj,?_⟩;rw[r2,<- pc]; exact H
theorem ad9{j i:aT}{nj ni:Nat}(hap:zS j i=true)(hcj:rV j.op=true)(hqi:dw i.op=true)(hHF:zQ i.op=true)(KU:i.ad=false){K:AS->Prop}{s:AS}(H:Yv P true nj j (Yv P true ni i K) s):Yv P true ni i (Yv P true nj j K) s:=by
 have A:=xY hap;have gj: ∀ t,gv i.g (s.put j.d t)=gv i.g s:=fun t=>Bz A.ji
 have gi: ∀ t,gv j.g (s.put i.d t)=gv j.g s:=fun t=>Bz A.ij
 have xj: ∀ t,∀ x∈i.op.xs,s.ev x=(s.put j.d t).ev x:=fun t=>iZ A.ji
 have xi: ∀ t,∀ x∈j.op.xs,s.ev x=(s.put i.d t).ev x:=fun t=>iZ A.ij
 have pc: ∀ t u,(s.put j.d t).put i.d u=(s.put i.d u).put j.d t:=fun t u=>put_comm A.dd
 have hpp: ∀ d t,(s.put d t).hp=s.hp:=fun d t=>rU s d t
 have he: ∀ d t,Ak s.hp (s.put d t).hp:=fun d t=>by rw[hpp]; exact fun _ _ h=>h
 have he': ∀ d t,Ak (s.put d t).hp s.hp:=fun d t=>by rw[hpp]; exact fun _ _ h=>h
 have hdd: ∀ z,j.d=some z->i.d≠some z:=fun z hz=>A.dd z hz
 have nmi: ∀ {p:Prop},i.ad=true->p:=fun e=>by rw[KU] at e; cases e
 rcases H with ⟨hgj,fj,H⟩|⟨hgj,H⟩
 rotate_left
 ·
  rcases H with ⟨hgi,fi,H⟩|⟨hgi,H⟩
  ·rw[gj] at hgi;rw[bU hqi] at H;obtain⟨r1,r2⟩:=GV hqi (fun x hx=>(xj T.un x hx).symm) (he' _ _) H.1;refine .inl ⟨hgi,kV A.ji fi,(bU hqi).2 ⟨r1,nmi,.inr ⟨by rw[gi]; exact hgj,?_⟩⟩⟩;rw[<- pc,r2]; exact H.2.2
  ·rw[gj] at hgi;refine .inr ⟨hgi,.inr ⟨by rw[gi]; exact hgj,?_⟩⟩;rw[<- pc]; exact H
 ·rw[ES hcj] at H;obtain⟨f,ts,h1,h2⟩:=H;unfold qM at h2;obtain⟨⟨t0,h0,⟨e0,_,hG⟩⟩,_,_⟩:=id h2;rcases hG with ⟨hgi,fi,hG⟩|⟨hgi,hG⟩
  ·rw[uf,gj] at hgi;rw[bU hqi] at hG;have hev: ∀ x∈i.op.xs,({(s.put j.d t0) with hp:=h0}:AS).ev x=s.ev x:=fun x hx=>by rw[xj t0 x hx]; cases x<;>rfl
   obtain⟨q1,_⟩:=Yu hHF hev hG.1;have fi0:lH i s:=by
    have h:=AQ (h:=s.hp) fi;have e:({({(s.put j.d t0) with hp:=h0}:AS) with hp:=s.hp}:AS)=s.put j.d t0:=uP rfl;rw[e] at h;exact kV A.ji h
   refine .inl ⟨hgi,fi0,(bU hqi).2 ⟨q1,nmi,.inl ⟨by rw[gi]; exact hgj,kM A.ij fj,h1 _ (xi _) _ ?_⟩⟩⟩;unfold qM;rw[hpp];refine h2.mono fun t h' ⟨p1,pm,p2⟩=>⟨p1,?_⟩
   rcases p2 with ⟨_,_,p2⟩|⟨p3,_⟩
   ·rw[bU hqi] at p2;have akf: ∀ x∈i.op.xs,({(s.put j.d t) with hp:=h'}:AS).ev x=s.ev x:=fun x hx=>by rw[xj t x hx]; cases x<;>rfl
    obtain⟨_,q2⟩:=Yu hHF akf p2.1;have p2':=p2.2.2;rw[<- q2] at p2';rw[dI] at p2';refine⟨fun e=>by rw[hpp]; exact pm e,?_⟩;rw[dI,dI,<- put_comm A.dd];exact p2'
   ·rw[uf,gj,hgi] at p3; cases p3
  ·rw[uf,gj] at hgi;refine .inr ⟨hgi,.inl ⟨by rw[gi]; exact hgj,kM A.ij fj,h1 _ (xi _) _ ?_⟩⟩;unfold qM;rw[hpp];refine h2.mono fun t h' ⟨p1,pm,p2⟩=>⟨p1,?_⟩
   rcases p2 with ⟨p3,_⟩|⟨_,p2⟩
   ·rw[uf,gj,hgi] at p3; cases p3
   ·refine⟨fun e=>by rw[hpp]; exact pm e,?_⟩;rw[dI] at p2;rw[dI,dI,<- put_comm A.dd];exact p2
theorem ZX(t:T){A:Nat->Prop}(h: ∀ i,A i):t.ids A:=T.aW (fun i _=>h i) _ (pF t)
theorem CG{dr:Bool}{n:Nat}{o:aT}(hr:o.ar=false){K:AS->Prop}{s:AS}:OQ P dr n o K s↔Yv P dr n o K s:=by
 unfold OQ Yv opR;rw[hr]; simp
theorem VZ{dr:Bool}{n:Nat}{o:aT}{K K':AS->Prop}{s:AS}(hK: ∀ s',s'.nx=s.nx->s'.pin=s.pin->K s'->K' s')(h:Yv P dr n o K s):Yv P dr n o K' s:=by
 rcases h with ⟨h1,h0,h2⟩|⟨h1,h2⟩
 ·exact .inl ⟨h1,h0,mP (fun s' a b h=>⟨h.1,hK s' a b h.2⟩) h2⟩
 ·exact .inr ⟨h1,hK _ (fQ _ _ _) (iM _ _ _) h2⟩
theorem OT{n:Nat}{d:Option Nat}{op:o8}{K K':AS->Prop}{s:AS}(hK: ∀ s',s'.nx=s.nx->s'.pin=s.pin->K s'->K' s')(h:opF P n d op K s):opF P n d op K' s:=by
 unfold opF at h ⊢;split at h
 ·obtain⟨t,o,h1,h2,h3,h4⟩:=h;exact⟨t,o,h1,h2,h3,hK _ (fQ _ _ _) (iM _ _ _) h4⟩
 ·exact h.elim
theorem ahl{n:Nat}{d:Option Nat}{op:o8}{K:AS->Prop}{s:AS}(h:opF P n d op K s):nS P false n d op K s:=by
 unfold opF at h;split at h
 ·rename_i f xs;obtain⟨t,o,h1,h2,h3,h4⟩:=h;show qM P false n d f (xs.map s.ev) K s;unfold qM;exact(h3 s.hp (fun _ _ h=>h) (fun _ _ _=>cu.2 fun _ _=>ZX _ fun _ h=>h)).mono fun t' h' ⟨e1,e2⟩=>⟨fun e=>(by cases e),by rw[e1,e2]; exact h4⟩
 ·exact h.elim
theorem Jq{n:Nat}{d:Option Nat}{op:o8}{K:AS->Prop}{s:AS}(h:opF P n d op K s): ∃ f xs,op= .call f xs:=by
 unfold opF at h;split at h
 ·exact⟨_,_,rfl⟩
 ·exact h.elim
theorem Jr{dr:Bool}{n:Nat}{o:aT}{K K':AS->Prop}{s:AS}(hK: ∀ s',s'.nx=s.nx->s'.pin=s.pin->K s'->K' s')(h:OQ P dr n o K s):OQ P dr n o K' s:=by
 rcases h with ⟨h1,h0,⟨h3,h2⟩|⟨h3,h4,h2⟩⟩|⟨h1,h2⟩
 ·exact .inl ⟨h1,h0,.inl ⟨h3,mP (fun s' a b h=>⟨h.1,hK s' a b h.2⟩) h2⟩⟩
 ·exact .inl ⟨h1,h0,.inr ⟨h3,h4,OT hK h2⟩⟩
 ·exact .inr ⟨h1,hK _ (fQ _ _ _) (iM _ _ _) h2⟩
theorem aea{A B C:Nat->Prop}{t:T}:t.ids (fun j=>B j->C j)->t.ids (fun j=>A j->B j)->t.ids (fun j=>A j->C j):=by
 apply T.rec (motive_1:=fun t=>t.ids (fun j=>B j->C j)->t.ids (fun j=>A j->B j)->t.ids (fun j=>A j->C j)) (motive_2:=fun l=>T.aO (fun j=>B j->C j) l->T.aO (fun j=>A j->B j) l->T.aO (fun j=>A j->C j) l);all_goals simp_all[T.ids,T.aO]
theorem EU{s s':AS}(e:s'.hp=s.hp): ∀ i ob,s.hp i=some ob->T.aO (fun j=>(s'.hp j).isSome=true->(s.hp j).isSome=true) ob.l:=fun _ _ _=>by
 rw[e]; exact cu.2 fun _ _=>ZX _ fun _ h=>h
theorem EW{n:Nat}{d:Option Nat}{f:FuncId}{xs:List X}{K K':AS->Prop}{s s':AS}(hx: ∀ x∈xs,s.ev x=s'.ev x)(hh:Ak s.hp s'.hp)(hi: ∀ i ob,s.hp i=some ob->T.aO (fun j=>(s'.hp j).isSome=true->(s.hp j).isSome=true) ob.l)(h:opF P n d (.call f xs) K s)
  (hK: ∀ t o,t.ids (fun i=>i=n)->(∀ ob,o=some ob->T.bn ob.l=true)->K {(s.put d t) with hp:=jM s.hp n o}->K' {(s'.put d t) with hp:=jM s'.hp n o}):opF P n d (.call f xs) K' s':=by
 obtain⟨t,o,h1,h2,h3,h4⟩:=h;refine⟨t,o,h1,h2,fun h he hc=>?_,hK t o h1 h2 h4⟩;rw[<- ce hx];refine h3 h (fun i ob hi=>he i ob (hh i ob hi)) fun i ob ho=>?_
 rw[cu];intro t ht;have a:=cu.1 (hi i ob ho) t ht;have b:=cu.1 (hc i ob (hh i ob ho)) t ht;exact aea a b
theorem OU{h:Hp}{n q:Nat}{o:Option Ob}(e:q≠n):jM h n o q=h q:=by
 cases o with
 |none=>rfl
 |some ob=>simp only[jM,upd,bB e]
theorem aeb{h:Hp}{n:Nat}{o:Option Ob}(e:h n=none):Ak h (jM h n o):=fun q ob hq=>by
 rw[OU]; exact hq;rintro rfl; rw[e] at hq; cases hq
theorem abK{h:Hp}{n m:Nat}{o:Option Ob}{ob:Ob}(e:n≠m):jM (upd h m (some ob)) n o=upd (jM h n o) m (some ob):=by
 cases o with
 |none=>rfl
 |some ob' =>
  funext q;simp only[jM,upd];by_cases h1:q=n<;>by_cases h2:q=m<;>simp_all
theorem RY{h h':Hp}{t:T}(hf:t.free=true)(e:t.nR h=true):t.nR h'=true:=by
 cases t<;>first|exact e|(simp[T.free] at hf; done)
theorem TV{dr:Bool}{n:Nat}{d:Option Nat}{op:o8}(hc:Cm op=true){K:AS->Prop}{s:AS}(h:nS P dr n d op K s) :
  (∀ s':AS,(∀ x∈op.xs,s.ev x=s'.ev x)-> ∀ K':AS->Prop,K' {(s'.put d (Ia n op)) with hp:=upd s'.hp n (some (qN s op))}->nS P dr n d op K' s') /\
   K {(s.put d (Ia n op)) with hp:=upd s.hp n (some (qN s op))}:=by
 refine⟨fun s' hx K' h'=>?_,((Ib (Jo hc)).1 h).2⟩;cases op<;>try (simp[Cm] at hc; done)
 ·rename_i ty k z;obtain⟨h1,_⟩:=h;simp only[aD] at h1;refine⟨?_,h'⟩;simp only[aD];exact⟨⟨⟨h1.1.1.1,RY h1.1.2 h1.1.1.2⟩,h1.1.2⟩,h1.2⟩
 ·rename_i ty k bytes z x y;have ex:=hx x (by simp[o8.xs]);have ey:=hx y (by simp[o8.xs]);simp only[nS] at h ⊢;rw[<- ex,<- ey];split at h
  ·rename_i k1 a k2 b e1 e2;obtain⟨g1,g2,_⟩:=h;simp only[aD] at g1;simp only[qN,e1] at h';refine⟨?_,g2,h'⟩;simp only[aD];exact⟨⟨⟨g1.1.1.1,RY g1.1.2 g1.1.1.2⟩,g1.1.2⟩,g1.2⟩
  ·exact h.elim
 ·rename_i ty k bytes y;have ey:=hx y (by simp[o8.xs]);simp only[nS] at h ⊢;rw[<- ey];split at h
  ·rename_i k' f m e1;simp only[qN,e1] at h';exact⟨h.1,h.2.1,h'⟩
  ·exact h.elim
theorem ahm{j i:aT}{nj ni:Nat}(hap:zS j i=true)(hqj:dw j.op=true)(hmj:j.ad=false)(TW:j.ar=false)(Rh:i.ar=true){K:AS->Prop}{s:AS}(hfr:i.op.xs=i.op.xs->dw i.op=false->s.hp ni=none)
  (H:OQ P true nj j (OQ P true ni i K) s):OQ P true ni i (OQ P true nj j K) s:=by
 have A:=xY hap;have gj: ∀ t,gv i.g (s.put j.d t)=gv i.g s:=fun t=>Bz A.ji
 have gi: ∀ t,gv j.g (s.put i.d t)=gv j.g s:=fun t=>Bz A.ij
 have xj: ∀ t,∀ x∈i.op.xs,s.ev x=(s.put j.d t).ev x:=fun t=>iZ A.ji
 have xi: ∀ t,∀ x∈j.op.xs,s.ev x=(s.put i.d t).ev x:=fun t=>iZ A.ij
 have pc: ∀ t u,(s.put j.d t).put i.d u=(s.put i.d u).put j.d t:=fun t u=>put_comm A.dd
 have hpp: ∀ d t,(s.put d t).hp=s.hp:=fun d t=>rU s d t
 have he: ∀ d t,Ak s.hp (s.put d t).hp:=fun d t=>by rw[hpp]; exact fun _ _ h=>h
 have he': ∀ d t,Ak (s.put d t).hp s.hp:=fun d t=>by rw[hpp]; exact fun _ _ h=>h
 have nmj: ∀ {p:Prop},j.ad=true->p:=fun e=>by rw[hmj] at e; cases e
 have ri: ∀ {K s},opR P true ni i K s->i.fl=true/\opF P ni i.d i.op K s:=by
  rintro K s (⟨h,_⟩|⟨_,h⟩)
  ·rw[Rh] at h; cases h
  ·exact h
 rcases H with ⟨hgj,fj,H⟩|⟨hgj,H⟩
 rotate_left
 ·rcases H with ⟨hgi,fi,H⟩|⟨hgi,H⟩
  ·rw[gj] at hgi;obtain⟨hfl,H⟩:=ri H;obtain⟨f,xs,eo⟩:=Jq H;refine .inl ⟨hgi,kV A.ji fi,.inr ⟨Rh,hfl,?_⟩⟩;rw[eo] at H ⊢;refine EW (fun x hx=>(xj _ x (by rw[eo]; exact hx)).symm) (he' _ _) (EU (hpp _ _).symm) H fun t o _ _ k=>.inr ⟨by rw[uf,gi]; exact hgj,?_⟩
   rw[hpp,pc,dI,dI] at k;rw[dI]; exact k
  ·rw[gj] at hgi;refine .inr ⟨hgi,.inr ⟨by rw[gi]; exact hgj,?_⟩⟩;rw[<- pc]; exact H
 ·rcases H with ⟨_,H⟩|⟨h,_⟩
  rotate_left
  ·rw[TW] at h; cases h
  rw[bU hqj] at H;obtain⟨hq,_,H⟩:=H;rcases H with ⟨hgi,fi,H⟩|⟨hgi,H⟩
  ·rw[gj] at hgi;obtain⟨hfl,H⟩:=ri H;obtain⟨f,xs,eo⟩:=Jq H;have h0:s.hp ni=none:=hfr rfl (by rw[eo]; rfl);refine .inl ⟨hgi,kV A.ji fi,.inr ⟨Rh,hfl,?_⟩⟩;rw[eo] at H ⊢;refine EW (fun x hx=>(xj _ x (by rw[eo]; exact hx)).symm) (he' _ _) (EU (hpp _ _).symm) H fun t o _ _ k=>.inl ⟨by rw[uf,gi]; exact hgj,AQ (kM A.ij fj),.inl ⟨TW,(bU hqj).2 ?_⟩⟩
   have hev: ∀ x∈j.op.xs,s.ev x=({(s.put i.d t) with hp:=jM s.hp ni o}:AS).ev x:=fun x hx=>by rw[xi t x hx]; cases x<;>rfl
   obtain⟨r1,r2⟩:=GV hqj hev (aeb h0) hq;refine⟨r1,nmj,?_⟩;rw[r2,dI];rw[hpp,pc,dI,dI] at k;exact k
  ·rw[gj] at hgi;refine .inr ⟨hgi,.inl ⟨by rw[gi]; exact hgj,kM A.ij fj,.inl ⟨TW,(bU hqj).2 ?_⟩⟩⟩;obtain⟨r1,r2⟩:=GV hqj (xi T.un) (he _ _) hq;refine⟨r1,nmj,?_⟩;rw[r2,<- pc]; exact H
theorem ahn{j i:aT}{nj ni:Nat}(hap:zS j i=true)(TW:j.ar=true)(KU:i.ad=false)(Rh:i.ar=false)(hi:(dw i.op=true/\zQ i.op=true)\/Cm i.op=true)(hne:nj≠ni){K:AS->Prop}{s:AS}
  (hfr:Cm i.op=true->s.hp ni=none/\ ∀ q ob,s.hp q=some ob->T.aO (· ≠ni) ob.l) (H:OQ P true nj j (OQ P true ni i K) s):OQ P true ni i (OQ P true nj j K) s:=by
 have A:=xY hap;have gj: ∀ t,gv i.g (s.put j.d t)=gv i.g s:=fun t=>Bz A.ji
 have gi: ∀ t,gv j.g (s.put i.d t)=gv j.g s:=fun t=>Bz A.ij
 have xj: ∀ t,∀ x∈i.op.xs,s.ev x=(s.put j.d t).ev x:=fun t=>iZ A.ji
 have xi: ∀ t,∀ x∈j.op.xs,s.ev x=(s.put i.d t).ev x:=fun t=>iZ A.ij
 have pc: ∀ t u,(s.put j.d t).put i.d u=(s.put i.d u).put j.d t:=fun t u=>put_comm A.dd
 have hpp: ∀ d t,(s.put d t).hp=s.hp:=fun d t=>rU s d t
 have he': ∀ d t,Ak (s.put d t).hp s.hp:=fun d t=>by rw[hpp]; exact fun _ _ h=>h
 have he: ∀ d t,Ak s.hp (s.put d t).hp:=fun d t=>by rw[hpp]; exact fun _ _ h=>h
 have nmi: ∀ {p:Prop},i.ad=true->p:=fun e=>by rw[KU] at e; cases e
 have ri: ∀ {K s},opR P true ni i K s->nS P (i.dr true) ni i.d i.op (mkK i s K) s:=by
  rintro K s (⟨_,h⟩|⟨h,_⟩)
  ·exact h
  ·rw[Rh] at h; cases h
 rcases H with ⟨hgj,fj,H⟩|⟨hgj,H⟩
 rotate_left
 ·rcases H with ⟨hgi,fi,H⟩|⟨hgi,H⟩
  ·rw[gj] at hgi;have H:=ri H;refine .inl ⟨hgi,kV A.ji fi,.inl ⟨Rh,?_⟩⟩;rcases hi with ⟨hqi,_⟩|hai
   ·rw[bU hqi] at H;obtain⟨r1,r2⟩:=GV hqi (fun x hx=>(xj T.un x hx).symm) (he' _ _) H.1;refine(bU hqi).2 ⟨r1,nmi,.inr ⟨by rw[gi]; exact hgj,?_⟩⟩;rw[<- pc,r2]; exact H.2.2
   ·obtain⟨g1,g2⟩:=TV hai H;refine g1 s (fun x hx=>(xj _ x hx).symm) _ ⟨nmi,.inr ⟨by rw[uf,gi]; exact hgj,?_⟩⟩;have g2:=g2.2;rw[hpp,pc,dI,dI] at g2;rw[dI]; exact g2
  ·rw[gj] at hgi;refine .inr ⟨hgi,.inr ⟨by rw[gi]; exact hgj,?_⟩⟩;rw[<- pc]; exact H
 ·rcases H with ⟨h,_⟩|⟨_,al4,H⟩
  ·rw[TW] at h; cases h
  obtain⟨f,xs,eo⟩:=Jq H;have xi': ∀ t,∀ x∈xs,s.ev x=(s.put i.d t).ev x:=fun t x hx=>xi t x (by rw[eo]; exact hx)
  have H':=H;rw[eo] at H';obtain⟨t0,o0,_,_,_,hG⟩:=H';rcases hG with ⟨hgi,fi,hG⟩|⟨hgi,hG⟩
  ·rw[uf,gj] at hgi;have hG:=ri hG;have fi0:lH i s:=by
    have h:=AQ (h:=s.hp) fi;have e:({({(s.put j.d t0) with hp:=jM s.hp nj o0}:AS) with hp:=s.hp}:AS)=s.put j.d t0:=uP rfl;rw[e] at h;exact kV A.ji h
   refine .inl ⟨hgi,fi0,.inl ⟨Rh,?_⟩⟩
   have key: ∀ {s1:AS},(∀ x∈xs,s.ev x=s1.ev x)->Ak s.hp s1.hp->(∀ i ob,s.hp i=some ob->T.aO (fun j=>(s1.hp j).isSome=true->(s.hp j).isSome=true) ob.l)->gv j.g s1=some true->lH j s1 ->
     (∀ t o,nS P (i.dr true) ni i.d i.op (mkK i {(s.put j.d t) with hp:=jM s.hp nj o} K) {(s.put j.d t) with hp:=jM s.hp nj o}->K {(s1.put j.d t) with hp:=jM s1.hp nj o})->OQ P true nj j K s1:=by
    intro s1 a b b' c d e;refine .inl ⟨c,d,.inr ⟨TW,al4,?_⟩⟩;rw[eo] at H ⊢;refine EW a b b' H fun t o _ _ k=>?_
    rcases k with ⟨_,_,k⟩|⟨k,_⟩
    ·exact e t o (ri k)
    ·rw[uf,gj,hgi] at k; cases k
   rcases hi with ⟨hqi,hHF⟩|hai
   ·rw[bU hqi] at hG;have hev: ∀ t o,∀ x∈i.op.xs,({(s.put j.d t) with hp:=jM s.hp nj o}:AS).ev x=s.ev x:=fun t o x hx=>by rw[xj t x hx]; cases x<;>rfl
    obtain⟨q1,_⟩:=Yu hHF (hev t0 o0) hG.1;refine(bU hqi).2 ⟨q1,nmi,key (xi' _) (he _ _) (EU (hpp _ _)) (by rw[gi]; exact hgj) (kM A.ij fj) fun t o k=>?_⟩;rw[bU hqi] at k;obtain⟨_,q2⟩:=Yu hHF (hev t o) k.1;have k:=k.2.2;rw[<- q2,dI,put_comm A.dd] at k;rw[hpp,dI,dI]; exact k
   ·obtain⟨g1,_⟩:=TV hai hG;have hob: ∀ t o,qN ({(s.put j.d t) with hp:=jM s.hp nj o}:AS) i.op=qN s i.op:=fun t o=>(ET fun x hx=>by rw[xj t x hx]; cases x<;>rfl).symm
    have h0:=(hfr hai).1;refine g1 s (fun x hx=>by rw[xj t0 x hx]; cases x<;>rfl) _ ⟨nmi,?_⟩;rw[hob];refine key (fun x hx=>by rw[xi' (Ia ni i.op) x hx]; cases x<;>rfl) (TU h0) (fun q oq hq=>T.aA (fun m hm hs=>by simpa [upd,hm] using hs) _ ((hfr hai).2 q oq hq)) (by rw[uf,gi]; exact hgj) (AQ (kM A.ij fj)) fun t o k=>?_
    have k:=((TV hai k).2).2;rw[hob] at k
    have e:({(({(s.put i.d (Ia ni i.op)) with hp:=upd s.hp ni (some (qN s i.op))}:AS).put j.d t) with hp:=jM (upd s.hp ni (some (qN s i.op))) nj o}:AS) =
      {(({(s.put j.d t) with hp:=jM s.hp nj o}:AS).put i.d (Ia ni i.op)) with hp:=upd (jM s.hp nj o) ni (some (qN s i.op))}:=by
     rw[abK hne,dI,dI,dI];show _=AS.put ({(s.put j.d t) with hp:=upd (jM s.hp nj o) ni (some (qN s i.op))}:AS) i.d (Ia ni i.op);rw[dI,put_comm A.dd]
    rw[e]; exact k
  ·rw[uf,gj] at hgi;refine .inr ⟨hgi,.inl ⟨by rw[gi]; exact hgj,kM A.ij fj,.inr ⟨TW,al4,?_⟩⟩⟩;rw[eo] at H ⊢;refine EW (xi' _) (he _ _) (EU (hpp _ _)) H fun t o _ _ k=>?_
   rcases k with ⟨k,_⟩|⟨_,k⟩
   ·rw[uf,gj,hgi] at k; cases k
   ·rw[dI,put_comm A.dd] at k;rw[hpp,dI,dI]; exact k
theorem aec{j i:aT}{nj ni:Nat}(h:Ic j i=true){K:AS->Prop}{s:AS}(hne:nj≠ni)(hni:s.nx<=ni)(hfr:(dw i.op=true/\zQ i.op=true)\/(s.hp ni=none/\ ∀ q ob,s.hp q=some ob->T.aO (· ≠ni) ob.l))
  (H:OQ P true nj j (OQ P true ni i K) s):OQ P true ni i (OQ P true nj j K) s:=by
 unfold Ic at h;cases TW:j.ar with
 |true =>
  rw[TW] at h;simp only[bE,aD,cY,bq] at h;refine ahn h.1.1.1 TW h.1.1.2 h.1.2 h.2 hne (fun ha=>?_) H;rcases hfr with ⟨hq,_⟩|hf
  ·cases hop:i.op<;>rw[hop] at ha hq<;>first|(simp[Cm] at ha; done)|(simp[dw] at hq)
  ·exact hf
 |false =>
 rw[TW] at h;simp only[ap] at h;cases Rh:i.ar with
 |true =>
  rw[Rh] at h;simp only[bE,aD,bq] at h;refine ahm h.1.1 h.1.2 h.2 TW Rh (fun _ hq=>?_) H;rcases hfr with ⟨hq',_⟩|hf
  ·rw[hq] at hq'; cases hq'
  ·exact hf.1
 |false =>
 rw[Rh] at h;simp only[ap] at h;refine(CG Rh).2 (VZ (fun s' _ _ h=>(CG TW).2 h) ?_);replace H:Yv P true nj j (Yv P true ni i K) s:=VZ (fun s' _ _ h=>(CG Rh).1 h) ((CG TW).1 H);cases hmj:j.ad with
 |true =>
  rw[hmj] at h;simp only[bE,aD,bq] at h;exact ad9 h.1.1.1.1 h.1.1.1.2 h.1.1.2 h.1.2 h.2 H
 |false =>
  rw[hmj] at h;cases KU:i.ad with
  |true =>
   rw[KU] at h;simp only[bE,ap,aD] at h;exact swap_mk h.1.1 h.1.2 h.2 hmj KU H
  |false =>
   rw[KU] at h;simp only[ap] at h;have H0:OO P true nj j (OO P true ni i K) s:=KY (fun s' _ _ h=>(CB KU).1 h) ((CB hmj).1 H);exact(CB KU).2 (KY (fun s' _ _ h=>(CB hmj).2 h) (abJ h hne hni hfr H0))
end
section
variable {P:Program} {nd:Bool}
def RZ(ni:Nat)(s:AS):Prop:=s.hp ni=none/\ ∀ q ob,s.hp q=some ob->T.aO (· ≠ni) ob.l
theorem RZ.MH{ni:Nat}{s s':AS}(h:RZ ni s)(e:s'.hp=s.hp):RZ ni s':=by unfold RZ; rw[e]; exact h
def OW(i:aT)(ni:Nat)(s:AS):Prop:=(dw i.op=true/\zQ i.op=true)\/RZ ni s
theorem aho{nj ni:Nat}{j i:aT}(hc:Jp j i=true)(hne:nj≠ni){K K':AS->Prop}{s:AS}(hf:OW i ni s)(hK: ∀ s',s'.nx=s.nx->OW i ni s'->K s'->K' s')(h:OO P true nj j K s):OO P true nj j K' s:=by
 by_cases hq:dw i.op=true/\zQ i.op=true
 ·exact KY (fun s' e _ k=>hK s' e (.inl hq) k) h
 have hnq:dw i.op=true-> ¬ zQ i.op=true:=fun a b=>hq ⟨a,b⟩
 replace hf:=hf.resolve_left hq;replace hK: ∀ s',s'.nx=s.nx->RZ ni s'->K s'->K' s':=fun s' e f k=>hK s' e (.inr f) k
 rcases h with ⟨h1,h0,h2⟩|⟨h1,h2⟩
 ·refine .inl ⟨h1,h0,?_⟩;simp only[Jp,aD,cY] at hc;have hcall:rV j.op=true->j.fl=false->nS P (j.dr true) nj j.d j.op K' s:=by
   intro ho hfl;have hjd:j.dr true=true:=by
    unfold aT.dr; rw[hfl]; cases j.op<;>rfl
   rw[ES ho] at h2;obtain⟨f,ts,g1,g2⟩:=h2;exact g1 s (fun _ _=>rfl) _ (aP.mono g2 fun t h' ⟨p1,p2⟩=>⟨p1,hK _ (fQ _ _ _) (hf.MH (p1 hjd).1) p2⟩)
  rcases hc.2 with ((⟨ho,_⟩|⟨⟨ho,hqi⟩,hfl⟩)|⟨⟨ho,_⟩,hfl⟩)|⟨ho,_⟩
  ·rw[bU ho] at h2 ⊢; exact⟨h2.1,hK _ (fQ _ _ _) (hf.MH (rU _ _ _)) h2.2⟩
  ·cases hjf:j.fl with
   |false=>exact hcall ho hjf
   |true =>
    have hHF:zQ i.op=true:=by
     rcases hfl with h|h
     ·rw[hjf] at h; cases h
     ·exact h
    exact absurd hHF (hnq hqi)
  ·exact hcall ho (by simpa using hfl)
  ·have hob:T.aO (· ≠ni) (qN s j.op).l:=by
    cases hop:j.op with
    |al ty k z =>
     rw[hop] at h2;obtain⟨g1,_⟩:=h2;simp only[aD] at g1;simp only[qN,T.aO];exact⟨T.aW (fun _ hf=>hf.elim) _ (eY g1.1.2),trivial⟩
    |make ty k bytes z x y =>
     rw[hop] at h2;simp only[nS] at h2;split at h2
     ·obtain⟨g1,_⟩:=h2;simp only[aD] at g1;simp only[qN];exact cu.2 fun t ht=>by rw[fb ht]; exact T.aW (fun _ hf=>hf.elim) _ (eY g1.1.2)
     ·exact h2.elim
    |ZM ty k bytes y =>
     rw[hop] at h2;simp only[nS] at h2;split at h2
     ·rename_i k' f m e1;obtain⟨⟨_,g1⟩,_⟩:=h2;simp only[qN,e1];exact T.aA (fun _ hf=>hf.elim) _ g1
     ·exact h2.elim
    |_=>rw[hop] at ho; simp[Cm] at ho
   rw[Ib (Jo ho)] at h2;obtain⟨g1,g2⟩:=h2;refine g1 s (fun _ _=>rfl) (fun _ _ h=>h) _ (hK _ (fQ _ _ _) ⟨?_,fun q ob hq=>?_⟩ g2)
   ·show upd s.hp nj _ ni=none;simp only[upd,bB (fun e:ni=nj=>hne e.symm)]; exact hf.1
   ·have hq':upd s.hp nj (some (qN s j.op)) q=some ob:=hq;by_cases hqj:q=nj
    ·subst hqj; simp only[upd,cn,bi] at hq'; subst hq'; exact hob
    ·simp only[upd,bB hqj] at hq'; exact hf.2 q ob hq'
 ·exact .inr ⟨h1,hK _ (fQ _ _ _) (hf.MH (rU _ _ _)) h2⟩
theorem akg{nj ni:Nat}{j i:aT}(hc:Ic j i=true)(hne:nj≠ni){K K':AS->Prop}{s:AS}(hf:OW i ni s)(hK: ∀ s',s'.nx=s.nx->OW i ni s'->K s'->K' s')(h:OQ P true nj j K s):OQ P true nj j K' s:=by
 by_cases hq:dw i.op=true/\zQ i.op=true
 ·exact Jr (fun s' e _ k=>hK s' e (.inl hq) k) h
 unfold Ic at hc;cases TW:j.ar with
 |true =>
  replace hf:=hf.resolve_left hq;rcases h with ⟨h1,h0,⟨h2,_⟩|⟨h2,h3,h4⟩⟩|⟨h1,h2⟩
  ·rw[TW] at h2; cases h2
  ·refine .inl ⟨h1,h0,.inr ⟨h2,h3,?_⟩⟩;obtain⟨f,xs,eo⟩:=Jq h4;rw[eo] at h4 ⊢;refine EW (fun _ _=>rfl) (fun _ _ h=>h) (EU rfl) h4 fun t o _ ho k=>hK _ (fQ _ _ _) (.inr ⟨?_,fun q ob hq=>?_⟩) k
   ·show jM s.hp nj o ni=none;rw[OU (fun e=>hne e.symm)]; exact hf.1
   ·have hq':jM s.hp nj o q=some ob:=hq;by_cases hqj:q=nj
    ·subst hqj;cases o with
     |none=>exact hf.2 q ob hq'
     |some o' =>
      simp only[jM,upd,cn,bi] at hq'; subst hq';exact T.aA (fun _ hf=>hf.elim) _ (dh (ho _ rfl))
    ·rw[OU hqj] at hq'; exact hf.2 q ob hq'
  ·exact .inr ⟨h1,hK _ (fQ _ _ _) (.inr (hf.MH (rU _ _ _))) h2⟩
 |false =>
 rw[TW] at hc;simp only[ap] at hc;refine(CG TW).2 ?_;replace h:=(CG TW).1 h;cases Rh:i.ar with
 |true =>
  rw[Rh] at hc;simp only[bE,aD,bq] at hc;replace hf:=hf.resolve_left hq;rcases h with ⟨h1,h0,h2⟩|⟨h1,h2⟩
  ·refine .inl ⟨h1,h0,?_⟩;rw[bU hc.1.2] at h2 ⊢;exact⟨h2.1,h2.2.1,hK _ (fQ _ _ _) (.inr (hf.MH (rU _ _ _))) h2.2.2⟩
  ·exact .inr ⟨h1,hK _ (fQ _ _ _) (.inr (hf.MH (rU _ _ _))) h2⟩
 |false =>
 rw[Rh] at hc;simp only[ap] at hc;cases hmj:j.ad with
 |true =>
  rw[hmj] at hc;simp only[bE,aD,bq] at hc;exact absurd ⟨hc.1.1.2,hc.1.2⟩ hq
 |false =>
  rw[hmj] at hc;refine(CB hmj).2 ?_;replace h:=(CB hmj).1 h;cases KU:i.ad with
  |true =>
   rw[KU] at hc;simp only[bE,ap,aD] at hc;replace hf:=hf.resolve_left hq;rcases h with ⟨h1,h0,h2⟩|⟨h1,h2⟩
   ·refine .inl ⟨h1,h0,?_⟩;rw[bU hc.1.2] at h2 ⊢;exact⟨h2.1,hK _ (fQ _ _ _) (.inr (hf.MH (rU _ _ _))) h2.2⟩
   ·exact .inr ⟨h1,hK _ (fQ _ _ _) (.inr (hf.MH (rU _ _ _))) h2⟩
  |false =>
   rw[KU] at hc;simp only[ap] at hc;exact aho hc hne hf hK h
def awI(P:Program)(dr:Bool)(nx:Nat)(K:AS->Prop):List (aT×Nat)->AS->Prop
 |[],s=>K s
 |(o,i)::r,s=>OQ P dr (nx+i) o (awI P dr nx K r) s
theorem aed{n:Nat}{d:Option Nat}{op:o8}{K:AS->Prop}{s:AS}: ¬ opW P true n d op K s:=by
 intro h; cases op<;>first|exact h.elim|exact absurd h.1 (by decide)
theorem akh{m nx pn:Nat}{K:AS->Prop}: ∀ {l:List aT} {i:Nat} {s:AS},s.nx=nx->s.pin=pn->wR P true m K l i s->awI P true nx (fun s=>s.pin=pn/\K {s with nx:=nx+m}) (l.zipIdx i) s:=by
 intro l;induction l with
 |nil=>intro i s hs hp h; subst hs; exact⟨hp,h⟩
 |cons o r ih =>
  intro i s hs hp h;subst hs hp;simp only[wR,H8] at h;simp only[List.zipIdx_cons,awI];rcases h with ⟨h1,h0,h2|h2⟩|⟨h1,h2⟩
  ·exact Jr (fun s' hs' hp' hK=>ih hs' hp' hK) (.inl ⟨h1,h0,h2⟩)
  ·exact absurd h2 aed
  ·exact .inr ⟨h1,ih (fQ _ _ _) (iM _ _ _) h2⟩
theorem aee{nx i:Nat}{o:aT}{K:AS->Prop}{post:List (aT×Nat)}: ∀ {pre:List (aT×Nat)} {s:AS},(∀ p∈pre,Ic p.1 o=true/\p.2≠i)->s.nx=nx->OW o (nx+i) s ->
  awI P true nx K (pre++(o,i)::post) s->OQ P true (nx+i) o (awI P true nx K (pre++post)) s:=by
 intro pre;induction pre with
 |nil=>intro s _ _ _ h; exact h
 |cons p pre ih =>
  intro s hp hnx hf h;obtain⟨oj,j⟩:=p;obtain⟨hc,hji⟩:=hp (oj,j) (by simp);simp only[cj,awI] at h;refine aec hc (by omega) (by omega) hf (akg hc (by omega) hf (fun s' aki hf' hK=>?_) h);exact ih (fun p hp'=>hp p (by simp[hp'])) (by rw[aki,hnx]) hf' hK
def Si(ops:Array Oper):Option (Nat×Bool)->Option (Option (Nat×Bool))
 |none=>some none
 |some (j,want)=>match (ops[j]?).bind (·.dst) with
  |some d=>some (some (d,want))
  |none=>none
def al5:o8->Bool
 | .st .. =>true
 | .Vb .. =>true
 |_=>false
def al6:Op->Bool
 | .makeSlice .. =>true
 |_=>false
def ahp(nd:Bool)(ops:Array Oper):Op->Bool
 | .buildSlice .. =>nd||ops.toList.any fun o=>al6 o.op
 |_=>nd
def ug(P:Program)(nd:Bool)(ops:Array Oper)(o:Oper):Option aT :=
 match wB P (ahp nd ops o.op) o.op,Si ops o.guard with
 |some op,some g=>if al5 op&&o.dst.isSome then none else some {d:=o.dst,op:=op,g:=g}
 |none,some g=>bif nd then some {d:=o.dst,op:=.bot,g:=g} else none
 |_,_=>none
def wC(P:Program)(nd:Bool)(ops:Array Oper):List Oper->Option (List aT)
 |[]=>some []
 |o::r=>match ug P nd ops o,wC P nd ops r with
  |some o',some r'=>some (o'::r')
  |_,_=>none
theorem F9{F:Fr P}{M:Nat->Prop}{E:Env}{s:AS}{a:Act}(R:Rel F M E s a){ops:Array Oper}{o:Oper}{g:Option (Nat×Bool)}(hg:Si ops o.guard=some g){b:Bool}(h:gv g s=some b) :
  Region.wanted o (yielded ops a.tmps)=b:=by
 unfold Si at hg;unfold Region.wanted;split at hg
 ·rename_i h0; cases hg; rw[h0]; simp only[gv,bi] at h; exact h
 ·rename_i j want h0;rw[h0];split at hg
  ·rename_i d hd;cases hg;simp only[gv] at h;simp only[yielded,hd,Option.bind_some];have hr:=zH R.fr d;have hlen:=qw R.fr;simp only[bu] at hlen;by_cases hlt:d<s.fr.length
   ·have e1:s.fr.getD d .any=s.fr.getD d T.un:=by simp[List.getD_eq_getElem?_getD,hlt]
    have hlt':d<a.tmps.size:=by rw[hlen]; exact hlt
    have e2:a.tmps[d]? =some (a.tmps.toList.getD d undef):=by
     rw[ab,Array.getElem?_toList,eZ hlt']; rfl
    rw[e1] at h;rw[e2];generalize a.tmps.toList.getD d undef=v at hr ⊢;split at h
    ·rename_i b' e3;rw[e3,aQ] at hr;subst hr;simp only[bi] at h;subst h;simp
    ·rename_i vs e3;rw[e3,aQ] at hr;subst hr;simp only[bi] at h;subst h;rfl
    ·cases h
   ·have:s.fr.getD d .any= .any:=by simp[List.getD_eq_getElem?_getD,show ¬ d<s.fr.length from hlt]
    rw[this] at h; cases h
  ·cases hg
theorem Rel.nx{F:Fr P}{M:Nat->Prop}{E:Env}{s:AS}{a:Act}(R:Rel F M E s a)(n:Nat):Rel F M E {s with nx:=n} a:=⟨R.hk,R.he,R.fr,R.df,R.mf,R.mh⟩
@[reducible] def wd(r:Option Nat):Fence:= {Fence.wide with round:=r}
theorem OX{o:Oper}{a:Act}{w:World}{K:Act->World->Prop}{Q:Exit->Act->World->Prop}{r:Option Nat}(hd: ∀ c,o.op≠ .defer c)(h:o.wp P a w K Q):o.wpIn (wd r) 0 P a w K Q:=by
 refine⟨fun _ _=>trivial,?_⟩;rw[Oper.semAt_eq _ _ _ hd];unfold Oper.wp at h;generalize (execOp a.eval o).run P w=res at h ⊢;match res,h with
 | .ok (.value v) w',h=>exact h
 | .ok .skip w',h=>exact h
 | .ok (.defer d) w',h=>exact h
 | .ok (.enter f args) w',h=>exact⟨(fun q=>by cases q),callsIn_wide.2 h⟩
 | .ok (.row rw args) w',h=>exact⟨(fun q=>by cases q),fun c cs _=>by
   obtain⟨v,w2,h1,h2⟩:=h c cs
   exact⟨v,w2,h1,stepsIn_wide.2 h2⟩⟩
 | .halt (.panic v) w',h=>exact h
theorem Js{o:Op}{op:o8}(h:wB P nd o=some op)(c:Call):o≠ .defer c:=by
 rintro rfl;simp only[wB] at h;cases h
theorem yD.mono{t:T}{ts:List T}{h:Hp}{n:Nat}{post post':T->Hp->Prop}(H:yD P t ts h n post)(hp: ∀ t h',post t h'->post' t h'):yD P t ts h n post':=by
 obtain⟨⟨t,hh,h1⟩,h2⟩:=H;refine⟨⟨t,hh,hp _ _ h1⟩,fun F M E v vs a b c d e g i j p q=>?_⟩;obtain⟨fn,tm,as,bd,y,r⟩:=h2 F M E v vs a b c d e g i j p q;refine⟨fn,tm,as,bd,y,r.mono ?_⟩;rintro e w' ⟨v,t,E',r1,r2,r3,r4⟩;exact⟨v,t,E',r1,r2,hp _ _ r3,r4⟩
theorem abL{dr:Bool}{n:Nat}{d:Option Nat}{x:X}{xs:List X}{K:AS->Prop}{s:AS}(h:opW P dr n d (.oP x xs) K s):opW P dr n d (.oP x xs) (fun s'=>s'.nx=s.nx/\s'.pin=s.pin/\K s') s:=by
 refine⟨h.1,?_⟩;replace h:=h.2;split at h
 ·exact⟨h.1,h.2.mono fun t hh q=>⟨fQ _ _ _,iM _ _ _,q⟩⟩
 ·exact h.elim
theorem Sj{r:Option Nat}{F:Fr P}{M:Nat->Prop}{E:Env}{s:AS}{a:Act}(R:Rel F M E s a){n:Nat}(hn: ¬ M n){ops:Array Oper}{o:Oper}{o':aT}(hc:ug P nd ops o=some o'){dr:Bool}{K:AS->Prop}{Q:Exit->Act->World->Prop}{fl ad ar:Bool}{ne:List Nat}
  (h:OQ P dr n {o' with fl:=fl,ne:=ne,ad:=ad,ar:=ar} K s) :
  if Region.wanted o (yielded ops a.tmps) then o.wpIn (wd r) 0 P a E.w (EP F M n E K) Q else EP F M n E K (a.put o.dst undef) E.w:=by
 unfold ug at hc;split at hc
 ·rename_i op g h1 h2;split at hc
  ·cases hc
  ·rename_i hst;cases hc;rcases h with ⟨hg,_,h⟩|⟨hg,h⟩
   ·rw[F9 R h2 hg,bc rfl];have h: ∃ dr',nS P dr' n o.dst op K s:=by
     rcases h with ⟨_,h⟩|⟨_,_,h⟩
     ·exact⟨_,mP (fun s' _ _ h=>h.2) h⟩
     ·exact⟨_,ahl h⟩
    obtain⟨dr',h⟩:=h;refine OX (Js h1) (ad4 R hn h1 ?_ h);rintro(⟨k,x,v,rfl⟩|⟨b,x,i,v,rfl⟩) <;>
    ·simp only[al5,cV] at hst;cases hd:o.dst with
     |none=>rfl
     |some d=>simp[hd] at hst
   ·rw[F9 R h2 hg,bB (by simp)];exact EP.quiet R (by simp[T.ids]) (by rw[aQ]; rfl) h
 ·rename_i g h1 h2;cases hnd:nd with
  |false=>rw[hnd] at hc; cases hc
  |true =>
   rw[hnd] at hc;cases hc;rcases h with ⟨hg,_,⟨_,h⟩|⟨_,_,h⟩⟩|⟨hg,h⟩
   ·exact h.elim
   ·exact h.elim
   ·rw[F9 R h2 hg,bB (by simp)];exact EP.quiet R (by simp[T.ids]) (by rw[aQ]; rfl) h
 ·cases hc
theorem QC{ops:Array Oper}{o:Oper}{o':aT}(hc:ug P nd ops o=some o'){f:FuncId}{xs:List X}(h:o'.op= .call f xs):wB P (ahp nd ops o.op) o.op=some o'.op/\o'.d=o.dst/\Si ops o.guard=some o'.g:=by
 unfold ug at hc;split at hc
 ·rename_i op g h1 h2;split at hc
  ·cases hc
  ·cases hc; exact⟨h1,rfl,h2⟩
 ·cases nd<;>cases hc
  cases h
 ·cases hc
theorem OY{ops:Array Oper}{o:Oper}{o':aT}(hc:ug P nd ops o=some o'){f:X}{xs:List X}(h:o'.op= .oP f xs):wB P (ahp nd ops o.op) o.op=some o'.op/\o'.d=o.dst/\Si ops o.guard=some o'.g:=by
 unfold ug at hc;split at hc
 ·rename_i op g h1 h2;split at hc
  ·cases hc
  ·cases hc; exact⟨h1,rfl,h2⟩
 ·cases nd<;>cases hc
  cases h
 ·cases hc
theorem YA{r0:Option Nat}{F:Fr P}{ops:Array Oper}{dr:Bool}{n0 m pn:Nat}{K:AS->Prop}{Q:Exit->Act->World->Prop}{E₀:Env}
  (hQ: ∀ E s a i,n0<=s.nx->s.pin=pn->K {s with nx:=s.nx+m}->Rel F (· <s.nx+i) E s a->i<=ops.size->Ext F E₀ E->Same E₀ E (· <n0)->Q .normal a E.w): ∀ {l:List Oper} {l':List aT} {i:Nat} {E:Env} {s:AS} {a:Act},wC P nd ops l=some l'->i+l.length<=ops.size->n0<=s.nx->s.pin=pn->Rel F (· <s.nx+i) E s a ->
   Ext F E₀ E->Same E₀ E (· <n0)->wR P dr m K l' i s->wpListIn (wd r0) 0 P ops Q l a E.w:=by
 intro l;induction l with
 |nil =>
  intro l' i E s a hc hlen hn hp R hext hsm h;cases hc;exact hQ E s a i hn hp h R (by simpa using hlen) hext hsm
 |cons o r ih =>
  intro l' i E s a hc hlen hn hp R hext hsm h;simp only[wC] at hc;split at hc
  ·rename_i o' r' h1 h2;cases hc;simp only[wR,H8] at h;simp only[bX] at hlen;have hnext: ∀ a' w',EP F (· <s.nx+i) (s.nx+i) E (fun s'=>s'.nx=s.nx/\s'.pin=s.pin/\wR P dr m K r' (i+1) s') a' w'->wpListIn (wd r0) 0 P ops Q r a' w':=by
    rintro a' w' ⟨E',s',rfl,⟨e1,e2,hK⟩,R',Jt,aef⟩;exact ih h2 (by omega) (by omega) (by rw[e2]; exact hp) (by rw[e1]; exact R'.weaken fun j hj=>by omega) (hext.trans Jt) (hsm.trans aef fun j hj=>by omega) hK
   have akj: ∀ a' w',al2 F (· <s.nx+i) (s.nx+i) E s (wR P dr m K r' (i+1)) a' w'->wpListIn (wd r0) 0 P ops Q r a' w':=by
    rintro a' w' ⟨E',s',k,rfl,hK,e1,e2,R',Jt,aef⟩;exact ih h2 (by omega) (by omega) (by rw[e2]; exact hp) (by rw[e1]; exact R'.weaken fun j hj=>by omega) (hext.trans Jt) (hsm.trans aef fun j hj=>by omega) hK
   have one:OQ P dr (s.nx+i) o' (fun s'=>s'.nx=s.nx/\s'.pin=s.pin/\wR P dr m K r' (i+1) s') s->wpListIn (wd r0) 0 P ops Q (o::r) a E.w:=by
    intro h;have:=Sj (r:=r0) (Q:=Q) (fl:=o'.fl) (ne:=o'.ne) R (n:=s.nx+i) (by omega) h1 h;unfold wpListIn;split
    ·rename_i hw;rw[bc hw] at this;exact Oper.wpIn_mono hnext this
    ·rename_i hw;rw[bB hw] at this;exact⟨fun _ _=>trivial,hnext _ _ this⟩
   rcases h with ⟨hg,h0,h3|h3⟩|⟨hg,h3⟩
   ·exact one (Jr (fun s' a b c=>⟨a,b,c⟩) (.inl ⟨hg,h0,h3⟩))
   ·have hcall:(∃ f xs,o'.op= .call f xs)\/ ∃ x xs,o'.op= .oP x xs:=by
     cases hop:o'.op<;>rw[hop] at h3<;>first|exact h3.elim|exact .inl ⟨_,_,rfl⟩|exact .inr ⟨_,_,rfl⟩
    have anC:wB P (ahp nd ops o.op) o.op=some o'.op/\o'.d=o.dst/\Si ops o.guard=some o'.g:=by
     rcases hcall with ⟨f,xs,hop⟩|⟨f,xs,hop⟩
     ·exact QC h1 hop
     ·exact OY h1 hop
    obtain⟨c1,c2,c3⟩:=anC;rw[c2] at h3;have hw:Region.wanted o (yielded ops a.tmps)=true:=F9 R c3 hg;unfold wpListIn;rw[bc hw];rcases hcall with ⟨f,xs,hop⟩|⟨f,xs,hop⟩
    ·exact Oper.wpIn_mono akj (OX (Js c1) (abG R (fun _ h=>h) (fun x xs q=>by rw[hop] at q; cases q) c1 h3))
    ·rw[hop] at h3 c1;exact Oper.wpIn_mono hnext (abE R (by omega) c1 (abL h3) r0)
   ·exact one (.inr ⟨hg,fQ _ _ _,iM _ _ _,h3⟩)
  ·cases hc
def edges(o:Oper):List Nat:=(o.after.toList.filter (Region.binds .any)).map (·.on)
def abM:List Oper->List Nat->List Nat
 |[],acc=>acc
 |o::r,acc=>abM r (acc++[(edges o).foldl (fun s j=>s ||| (2 ^ j ||| acc.getD j 0)) 0])
theorem abN(acc:List Nat): ∀ (l:List Nat) (s j:Nat),(l.foldl (fun s j=>s ||| (2 ^ j ||| acc.getD j 0)) s).testBit j=true->s.testBit j=true\/ ∃ e∈l,j=e\/(acc.getD e 0).testBit j=true:=by
 intro l;induction l with
 |nil=>intro s j h; exact .inl h
 |cons e l ih =>
  intro s j h;rw[eB] at h;rcases ih _ _ h with h|⟨e',he',h⟩
  ·simp only[Nat.testBit_or,cY,Nat.testBit_two_pow,aq] at h;rcases h with h|h|h
   ·exact .inl h
   ·exact .inr ⟨e,by simp,.inl h.symm⟩
   ·exact .inr ⟨e,by simp,.inr h⟩
  ·exact .inr ⟨e',by simp[he'],h⟩
theorem abO(ops:List Oper)(L:Nat->Prop)(hL: ∀ i o,ops[i]? =some o->L i-> ∀ j∈edges o,L j): ∀ (r:List Oper) (acc:List Nat),
  (∀ k,r[k]? =ops[acc.length+k]?)->acc.length+r.length=ops.length->(∀ i o,i<acc.length->ops[i]? =some o->(∀ j∈edges o,L j)-> ∀ j,(acc.getD i 0).testBit j=true->L j) ->
  ∀ i o,ops[i]? =some o->(∀ j∈edges o,L j)-> ∀ j,((abM r acc).getD i 0).testBit j=true->L j:=by
 intro r;induction r with
 |nil =>
  intro acc _ hlen hacc i o hi;simp only[abM];refine hacc i o ?_ hi;rw[bo] at hi;obtain⟨hlt,_⟩:=hi;simp at hlen; omega
 |cons o r ih =>
  intro acc hr hlen hacc;simp only[abM];refine ih _ (fun k=>?_) (by simp at hlen ⊢; omega) ?_
  ·have:=hr (k+1);simp only[List.getElem?_cons_succ] at this;rw[this]; simp only[aL,bX,cC]; congr 1; omega
  ·intro i oi hi hoi he j hj;rw[aL] at hi;simp only[bX,cC] at hi;by_cases hlt:i<acc.length
   ·rw[ab,co hlt,<- ab] at hj;exact hacc i oi hlt hoi he j hj
   ·have hi':i=acc.length:=by omega
    subst hi';have ho:oi=o:=by
     have:=hr 0;simp only[List.getElem?_cons_zero,fo] at this;rw[hoi] at this; simpa using this.symm
    subst ho;rw[ab,ck (ba _)] at hj;simp only[eN,List.getElem?_cons_zero,eL] at hj;rcases abN acc _ _ _ hj with h0|⟨e,hmem,rfl|hb⟩
    ·simp at h0
    ·exact he _ hmem
    ·by_cases hel:e<acc.length
     ·cases hoe:ops[e]? with
      |none=>rw[List.getElem?_eq_none_iff] at hoe; simp at hlen; omega
      |some oe=>exact hacc e oe hel hoe (hL e oe hoe (he e hmem)) j hb
     ·have:acc.getD e 0=0:=by simp[List.getD_eq_getElem?_getD,show ¬ e<acc.length from hel]
      rw[this] at hb; simp at hb
def TY(ops:List Oper)(pm:List Nat)(l:List aT):Bool :=
 let an:=abM ops []
 pm.length==ops.length&&l.length==ops.length&&((List.range ops.length).all fun i=>pm.contains i) &&
 (List.range ops.length).all fun q =>
  (match ops[q]? with|some o=>(edges o).all (· <q)|none=>true) &&
  (List.range q).all fun p=> !(pm.getD p 0==pm.getD q 0)&&((an.getD (pm.getD q 0) 0).testBit (pm.getD p 0)||(match l[p]?,l[q]? with|some oj,some oi=>Ic oj oi|_,_=>false))
theorem Ua{ops:Array Oper}: ∀ {l:List Oper} {l':List aT},wC P nd ops l=some l'-> ∀ {i:Nat} {o:Oper},l[i]? =some o-> ∃ o',l'[i]? =some o'/\ug P nd ops o=some o':=by
 intro l;induction l with
 |nil=>intro l' _ i o h; simp at h
 |cons x r ih =>
  intro l' hc i o h;simp only[wC] at hc;split at hc
  ·rename_i x' r' h1 h2;cases hc;cases i with
   |zero=>simp at h; subst h; exact⟨x',by simp,h1⟩
   |succ i=>simpa using ih h2 (by simpa using h)
  ·cases hc
theorem Ee{ops:Array Oper}: ∀ {l:List Oper} {l':List aT},wC P nd ops l=some l'->l'.length=l.length:=by
 intro l;induction l with
 |nil=>intro l' h; cases h; rfl
 |cons x r ih =>
  intro l' hc;simp only[wC] at hc;split at hc
  ·rename_i x' r' h1 h2; cases hc; simp[ih h2]
  ·cases hc
def QD(pm:List Nat)(l:List aT)(listed:Array Bool):List (aT×Nat):=l.zipIdx.filter fun p=> !listed.getD (pm.getD p.2 0) true
theorem abP{pm:List Nat}{l:List aT}{listed:Array Bool}{i p:Nat}{o:aT}(hl:l[p]? =some o)(hpm:pm.getD p 0=i)(hu: ∀ q,q<l.length->pm.getD q 0=i->q=p)(hi:listed.getD i true=false) :
  ∃ pre post,QD pm l listed=pre++(o,p)::post/\QD pm l (listed.setIfInBounds i true)=pre++post/\ ∀ r∈pre,r.2<p/\l[r.2]? =some r.1/\listed.getD (pm.getD r.2 0) true=false:=by
 have hlt:i<listed.size:=by
  rcases eR i listed.size with h|h
  ·exact h
  ·simp[Array.getD_eq_getD_getElem?,Array.getElem?_eq_none h] at hi
 rw[bo] at hl;obtain⟨hil,hli⟩:=hl;have hsplit:l.zipIdx=(l.zipIdx.take p)++(o,p)::l.zipIdx.drop (p+1):=by
  have:=cK p l.zipIdx;rw[eD (by simpa using hil)] at this;simp only[List.getElem_zipIdx,fS,hli] at this;exact this.symm
 have hget: ∀ j,(listed.setIfInBounds i true).getD j true=if j=i then true else listed.getD j true:=by
  intro j;simp only[dj];by_cases hj:j=i
  ·subst hj; simp[hlt]
  ·rw[Array.getElem?_setIfInBounds_ne (fun e=>hj e.symm),bB hj]
 have hmem: ∀ r∈l.zipIdx.take p,r.2<p/\l[r.2]? =some r.1:=by
  intro r hr;rw[fW] at hr;obtain⟨j,hj,rfl⟩:=hr;simp only[List.length_zipIdx] at hj;simp only[List.getElem_zipIdx,fS];exact⟨by omega,by rw[bS]⟩
 have al7: ∀ r∈l.zipIdx.drop (p+1),p<r.2/\r.2<l.length:=by
  intro r hr;rw[List.mem_drop_iff_getElem] at hr;obtain⟨j,hj,rfl⟩:=hr;simp only[List.length_zipIdx] at hj;simp only[List.getElem_zipIdx]; omega
 refine⟨(l.zipIdx.take p).filter fun r=> !listed.getD (pm.getD r.2 0) true,(l.zipIdx.drop (p+1)).filter fun r=> !listed.getD (pm.getD r.2 0) true,?_,?_,fun r hr=>?_⟩
 ·unfold QD;rw[hsplit,List.filter_append,fq,bc (by simp only[hpm,hi]; rfl)];rw[<- hsplit]
 ·unfold QD;rw[hsplit,List.filter_append,fq,bB (by rw[hpm,hget]; simp)];rw[<- hsplit]
  congr 1
  ·refine List.filter_congr fun r hr=>?_
   have h1:=(hmem r hr).1;have hne:pm.getD r.2 0≠i:=fun e=>by have:=hu r.2 (by omega) e; omega
   rw[hget,bB hne]
  ·refine List.filter_congr fun r hr=>?_
   have h1:=al7 r hr;have hne:pm.getD r.2 0≠i:=fun e=>by have:=hu r.2 (by omega) e; omega
   rw[hget,bB hne]
 ·rw[eE] at hr;obtain⟨h1,h2⟩:=hmem r hr.1;exact⟨h1,h2,by simpa using hr.2⟩
theorem ahq{pm:List Nat}{l:List aT}{listed:Array Bool}(h: ∀ p,p<l.length->listed.getD (pm.getD p 0) true=true):QD pm l listed=[]:=by
 unfold QD;rw[List.filter_eq_nil_iff];rintro⟨o,i⟩ hp;have hp:=List.mem_zipIdx hp;rw[h i (by omega)];simp
theorem YB{r0:Option Nat}{F:Fr P}{ops:Array Oper}{pm:List Nat}{l:List aT}(hl: ∀ p o,l[p]? =some o-> ∃ oo o' fl ne ad ar,ops[pm.getD p 0]? =some oo/\ug P nd ops oo=some o'/\o= {o' with fl:=fl,ne:=ne,ad:=ad,ar:=ar})
  (hd:TY ops.toList pm l=true) {nx:Nat} {K:AS->Prop} {Q:Exit->Act->World->Prop} {E₀:Env}
  (hQ: ∀ E s a,K s->Rel F (· <nx+ops.size) E s a->Ext F E₀ E->Same E₀ E (· <nx)->Q .normal a E.w): ∀ (fuel:Nat) (listed:Array Bool) (E:Env) (s:AS) (a:Act),listed.size=ops.size ->
   (∀ i o,ops.toList[i]? =some o->listed.getD i true=true-> ∀ j∈edges o,listed.getD j false=true)->(listed.toList.filter (fun b=> !b)).length<=fuel->s.nx=nx ->
   Rel F (fun j=>j<nx\/ ∃ p,p<ops.size/\listed.getD (pm.getD p 0) true=true/\j=nx+p) E s a->Ext F E₀ E->Same E₀ E (· <nx)->awI P true nx K (QD pm l listed) s->wpAnyIn (wd r0) 0 P .any ops Q fuel listed a E.w:=by
 simp only[TY,aD,bt,bj,cD,bu] at hd;obtain⟨⟨⟨hpl,hll⟩,hall⟩,ZY⟩:=hd;have al8: ∀ i,i<ops.size-> ∀ o,ops.toList[i]? =some o-> ∀ j∈edges o,j<i:=by
  intro i hi o ho j hj;have h1:=(ZY i hi).1;rw[ho] at h1; simp only[bj,aq] at h1; exact h1 j hj
 have hinj: ∀ p q,p<ops.size->q<ops.size->pm.getD p 0=pm.getD q 0->p=q:=by
  intro p q hp hq e;rcases Nat.lt_trichotomy p q with h|h|h
  ·have:=((ZY q hq).2 p h).1; rw[e,beq_self_eq_true] at this; cases this
  ·exact h
  ·have:=((ZY p hp).2 q h).1; rw[e,beq_self_eq_true] at this; cases this
 have hpos: ∀ i,i<ops.size-> ∃ p,p<ops.size/\pm.getD p 0=i:=by
  intro i hi;have:=hall i hi;simp only[List.contains_iff_mem] at this;obtain⟨p,hp,rfl⟩:=dt this;exact⟨p,by omega,by simp[List.getD_eq_getElem?_getD,hp]⟩
 have hin: ∀ p,p<ops.size->pm.getD p 0<ops.size:=by
  intro p hp;have hlp:p<l.length:=by omega
  obtain⟨oo,_,_,_,_,_,h1,_⟩:=hl p l[p] (bS hlp);exact(cm.1 h1).1
 have akk: ∀ listed:Array Bool,listed.size=ops.size->Region.ready .any ops listed=[]-> ∀ i,i<ops.size->listed.getD i true=true:=by
  intro listed hsz hr i;induction i using Nat.strongRecOn with
  |_ i ih =>
   intro hi;cases hb:listed.getD i true with
   |true=>rfl
   |false =>
    exfalso;have hoi:ops[i]? =some ops[i]:=by simp[hi]
    have:i∈Region.ready .any ops listed:=by
     rw[mem_ready];refine⟨hb,_,hoi,fun e he hbd=>?_⟩;have hmem:e.on∈edges ops[i]:=ax.2 ⟨e,eE.2 ⟨by simpa using he,hbd⟩,rfl⟩;have hlt:=al8 i hi ops[i] (by simp) e.on hmem;have:=ih e.on hlt (by omega);have hs:e.on<listed.size:=by omega
     simp only[dj,eZ hs,eL] at this ⊢;exact this
    rw[hr] at this;cases this
 intro fuel
 have hdone: ∀ (listed:Array Bool) (E:Env) (s:AS) (a:Act),(∀ i,i<ops.size->listed.getD i true=true)->Rel F (fun j=>j<nx\/ ∃ p,p<ops.size/\listed.getD (pm.getD p 0) true=true/\j=nx+p) E s a->Ext F E₀ E->Same E₀ E (· <nx) ->
   awI P true nx K (QD pm l listed) s->Q .normal a E.w:=by
  intro listed E s a hall R hext hsm h;rw[ahq (fun p hp=>hall _ (hin p (by omega)))] at h;exact hQ E s a h (R.weaken fun j hj=>by rcases hj with hj|⟨i,hi,_,rfl⟩<;>omega) hext hsm
 induction fuel with
 |zero =>
  intro listed E s a hsz hcl hf hnx R hext hsm h;have hall: ∀ i,i<ops.size->listed.getD i true=true:=by
   intro i hi;have hn:listed.toList.filter (fun b=> !b)=[]:=ai (by omega);rw[List.filter_eq_nil_iff] at hn;have hs:i<listed.size:=by omega
   have:=hn (listed[i]) (by simp);simp only[dj,eZ hs,eL];simpa using this
  refine⟨?_,hdone listed E s a hall R hext hsm h⟩;apply List.eq_nil_iff_forall_not_mem.2;intro i hi;rw[mem_ready] at hi;obtain⟨h1,o,ho,_⟩:=hi
  have:i<ops.size:=(cm.1 ho).1
  rw[hall i this] at h1; cases h1
 |succ fuel ih =>
  intro listed E s a hsz hcl hf hnx R hext hsm h;refine⟨fun hr=>hdone listed E s a (akk listed hsz hr) R hext hsm h,fun i hi=>?_⟩;rw[mem_ready] at hi;obtain⟨hli,o,ho,anD⟩:=hi;have hlt:i<ops.size:=(cm.1 ho).1;have ho':ops.toList[i]? =some o:=by simpa using ho
  obtain⟨p,hp,hpi⟩:=hpos i hlt;have hlp:p<l.length:=by omega
  have hlo:l[p]? =some l[p]:=bS hlp;obtain⟨oo,o',fl,ne,ad,ar,hoo,hco,heq⟩:=hl p l[p] hlo;rw[hpi,ho] at hoo;cases hoo;rw[heq] at hlo;obtain⟨pre,post,e1,e2,hpre⟩:=abP hlo hpi (fun q hq e=>hinj q p (by omega) hp (by rw[e,hpi])) hli;have aeg: ∀ j∈edges o,listed.getD j false=true:=by
   intro j hj;obtain⟨e,he,rfl⟩:=ax.1 hj;rw[eE] at he;exact anD e (by simpa using he.1) he.2
  have anE:=abO ops.toList (fun j=>listed.getD j false=true) (fun i o hi hLi=>hcl i o hi (by
   rcases eR i listed.size with hs|hs
   ·simp only[dj,eZ hs,eL] at hLi ⊢; exact hLi
   ·simp[Array.getD_eq_getD_getElem?,Array.getElem?_eq_none hs])) ops.toList [] (fun k=>by simp) (by simp) (fun i o hi=>by simp at hi) i o ho' aeg
  have hcomm: ∀ r∈pre,Ic r.1 {o' with fl:=fl,ne:=ne,ad:=ad,ar:=ar}=true/\r.2≠p:=by
   intro r hr;obtain⟨h1,h2,h3⟩:=hpre r hr;refine⟨?_,by omega⟩;have:=((ZY p hp).2 r.2 h1).2;simp only[cY] at this;rcases this with hb|hb
   ·exfalso;rw[hpi] at hb;have:=anE _ hb;have hs:pm.getD r.2 0<listed.size:=by have:=hin r.2 (by omega); omega
    simp only[dj,eZ hs,eL] at this h3;rw[this] at h3; cases h3
   ·rw[h2,hlo] at hb; exact hb
  have hMn: ¬ ((nx+p)<nx\/ ∃ q,q<ops.size/\listed.getD (pm.getD q 0) true=true/\nx+p=nx+q):=by
   rintro(h|⟨q,_,hq,he⟩)
   ·omega
   ·have:q=p:=by omega
    subst this; rw[hpi,hli] at hq; cases hq
  rw[e1] at h
  have al9:=aee (P:=P) hcomm hnx (.inr ⟨by
   cases hq:s.hp (nx+p) with
   |none=>rfl
   |some ob=>exact absurd (R.mh _ _ hq).1 hMn,fun q ob hq=>T.aA (M':=(· ≠nx+p)) (fun m hm (he:m=nx+p)=>hMn (he▸hm)) _ (R.mh q ob hq).2⟩) h
  have hop:=Sj (r:=r0) (Q:=Q) R hMn hco (Jr (K':=fun s'=>s'.nx=nx/\awI P true nx K (pre++post) s') (fun s' h1 _ h2=>⟨h1.trans hnx,h2⟩) al9);have hnext: ∀ a' w',EP F (fun j=>j<nx\/ ∃ q,q<ops.size/\listed.getD (pm.getD q 0) true=true/\j=nx+q) (nx+p) E (fun s'=>s'.nx=nx/\awI P true nx K (pre++post) s') a' w'->wpAnyIn (wd r0) 0 P .any ops Q fuel (listed.setIfInBounds i true) a' w':=by
   rintro a' w' ⟨E',s',rfl,⟨aki,hK⟩,R',Jt,aef⟩;have hsi:i<listed.size:=by omega
   have hget: ∀ j d,(listed.setIfInBounds i true).getD j d=if j=i then true else listed.getD j d:=by
    intro j d;simp only[dj];by_cases hj:j=i
    ·subst hj; simp[hsi]
    ·rw[Array.getElem?_setIfInBounds_ne (fun e=>hj e.symm),bB hj]
   refine ih _ E' s' a' (by simpa using hsz) (fun q oq hq hLq j hj=>?_) ?_ aki (R'.weaken fun j hj=>?_) (hext.trans Jt) (hsm.trans aef fun j hj=>.inl hj) (by rw[e2]; exact hK)
   ·rw[hget] at hLq ⊢;split
    ·rfl
    ·by_cases hqi:q=i
     ·subst hqi; rw[ho'] at hq; cases hq; exact aeg j hj
     ·rw[bB hqi] at hLq; exact hcl q oq hq hLq j hj
   ·have hb:listed.toList[i]'(by simpa using hsi)=false:=by
     simp only[dj,eZ hsi,eL] at hli;simpa using hli
    have hcount: ∀ (bs:List Bool) (i:Nat) (h:i<bs.length),bs[i]=false->((bs.set i true).filter (fun b=> !b)).length+1=(bs.filter (fun b=> !b)).length:=by
     intro bs;induction bs with
     |nil=>intro i h; simp at h
     |cons b bs ihb =>
      intro i h hb;cases i with
      |zero=>simp at hb; subst hb; simp
      |succ i =>
       have:=ihb i (by simpa using h) (by simpa using hb);rw[List.set_cons_succ,fq,fq];split
       ·simp only[bX]; omega
       ·exact this
    have:=hcount listed.toList i (by simpa using hsi) hb;rw[Array.toList_setIfInBounds]; omega
   ·rcases hj with (hj|⟨q,h1,h2,h3⟩)|hj
    ·exact .inl hj
    ·exact .inr ⟨q,h1,by rw[hget]; split<;>first|rfl|exact h2,h3⟩
    ·exact .inr ⟨p,hp,by rw[hget,bc hpi],hj⟩
  unfold wpOpIn;simp only[ho];split
  ·rename_i hw;rw[bc hw] at hop;exact Oper.wpIn_mono hnext hop
  ·rename_i hw;rw[bB hw] at hop;exact⟨fun _ _=>trivial,hnext _ _ hop⟩
def prio:o8->Nat
 | .call .. =>1
 | .oP .. =>1
 | .box .. =>2
 | .al .. =>2
 | .make .. =>2
 | .mmk .. =>2
 | .app .. =>3
 | .ZM .. =>3
 | .Gz .. =>3
 | .ZN .. =>4
 | .bot=>4
 | .st .. =>4
 | .Vb .. =>4
 |_=>0
def akl(ops:List Oper)(l:List aT)(done:List Nat):Option Nat :=
 let ready:=(List.range ops.length).filter fun i=> !done.contains i&&(match ops[i]? with|some o=>(edges o).all done.contains|none=>false)
 let p (i:Nat):Nat:=match l[i]? with|some o=>prio o.op|none=>9
 ready.foldl (fun best i=>match best with|none=>some i|some b=>if p i<p b then some i else some b) none
def order(ops:List Oper)(l:List aT):Nat->List Nat->List Nat
 |0,done=>done
 |n+1,done=>match akl ops l done with
  |some i=>order ops l n (done++[i])
  |none=>done
def Ub(an pm:List Nat)(l:List aT)(o:aT)(p:Nat):Bool×List Nat :=
 let writes (m:Nat):Bool:=l.any fun o=>o.d==some m
 let un (p q:Nat):Bool:= !((an.getD (pm.getD q 0) 0).testBit (pm.getD p 0))
 let isW (o:aT):Bool:=match o.op with| .st .. =>true| .app .. =>true|_=>false
 let isC (o:aT):Bool:=match o.op with| .call .. =>true| .oP .. =>true|_=>false
 let stable (o:aT):Option Nat:=match o.op with| .st _ (.t m) _=>if writes m then none else some m|_=>none
 let isM (o:aT):Bool:=match o.op with| .app _ _ _ (.t m) _=>l.any fun q=>q.d==some m&&(match q.op with| .ld .. =>true|_=>false)|_=>false
 if isW o then
  let b:=l.zipIdx.any fun(oj,j)=>Nat.blt j p&&un j p&&dw oj.op&& !zQ oj.op
  bif isM o then(false,bif b then [1000001] else []) else((stable o).isNone&&b,[])
 else if dw o.op&& !zQ o.op then
  let ws:=l.zipIdx.filter fun(oi,i)=>Nat.blt p i&&un p i&&isW oi
  (ws.any fun(oi,_)=> !isM oi&&(stable oi).isNone,(ws.filterMap fun(oi,_)=>stable oi)++bif ws.any fun(oi,_)=>isM oi then [1000000] else [])
 else if isC o then
  (l.zipIdx.all fun(oj,j)=>j==p||(Nat.blt j p&& !un j p)||(Nat.blt p j&& !un p j)||(dw oj.op&&zQ oj.op),[])
 else(false,[])
def aeh(an pm:List Nat)(l:List aT)(o:aT)(p:Nat):Bool :=
 let un (p q:Nat):Bool:= !((an.getD (pm.getD q 0) 0).testBit (pm.getD p 0))
 (match o.op,o.g with| .call ..,none=>true|_,_=>false)&& !(Ub an pm l o p).1 &&
  l.zipIdx.all fun(oj,j)=>j==p||(Nat.blt j p&&(!un j p||dw oj.op))||(Nat.blt p j&&(!un p j||(dw oj.op&&zQ oj.op)))
def ama(an pm:List Nat)(l:List aT)(o:aT)(p:Nat):Bool :=
 let un (p q:Nat):Bool:= !((an.getD (pm.getD q 0) 0).testBit (pm.getD p 0))
 (match o.op,o.g with| .call ..,none=>true|_,_=>false)&& !(Ub an pm l o p).1&& !aeh an pm l o p &&
  (o.op.xs.all fun x=>match x with| .t m=>l.all fun oj=> !(oj.d==some m)||dw oj.op| .c _=>true) &&
  l.zipIdx.all fun(oj,j)=>j==p||(Nat.blt j p&&(!un j p||dw oj.op))||(Nat.blt p j&&(!un p j||(dw oj.op&&zQ oj.op)||Cm oj.op))
def flags(an pm:List Nat)(l:List aT):List aT :=
 l.zipIdx.map fun op=> {op.1 with fl:=(Ub an pm l op.1 op.2).1||(aeh an pm l op.1 op.2||ama an pm l op.1 op.2),ne:=(Ub an pm l op.1 op.2).2,ad:=aeh an pm l op.1 op.2,ar:=ama an pm l op.1 op.2}
def NG(l:List aT):List Nat->Option (List aT)
 |[]=>some []
 |i::r=>match l[i]?,NG l r with
  |some o,some r'=>some (o::r')
  |_,_=>none
theorem V3{l:List aT}: ∀ {pm:List Nat} {l':List aT},NG l pm=some l'-> ∀ {p:Nat} {o:aT},l'[p]? =some o->l[pm.getD p 0]? =some o:=by
 intro pm;induction pm with
 |nil=>intro l' h p o hp; cases h; simp at hp
 |cons i r ih =>
  intro l' h p o hp;simp only[NG] at h;split at h
  ·rename_i o' r' h1 h2;cases h;cases p with
   |zero=>simp at hp; subst hp; simpa using h1
   |succ p=>simpa using ih h2 (by simpa using hp)
  ·cases h
theorem abQ{an pm:List Nat}{l:List aT}{p:Nat}{o:aT}(h:(flags an pm l)[p]? =some o): ∃ o' fl ne ad ar,l[p]? =some o'/\o= {o' with fl:=fl,ne:=ne,ad:=ad,ar:=ar}:=by
 unfold flags at h;simp only[cM,be] at h;obtain⟨⟨o',q⟩,h1,h2⟩:=h;rw[List.getElem?_zipIdx] at h1;simp only[be,fe] at h1;obtain⟨o'',h3,rfl,rfl⟩:=h1;exact⟨o'',_,_,_,_,h3,h2.symm⟩
end
section
variable {P:Program}
def OZ(P:Program)(ops:Array Oper):Option (List Nat×List aT) :=
 match wC P false ops ops.toList with
 |some l0 =>
  let pm:=order ops.toList l0 ops.size []
  match NG l0 pm with
  |some l1=>some (pm,flags (abM ops.toList []) pm l1)
  |none=>none
 |none=>none
def NH(P:Program)(ops:Array Oper)(dr:Bool):Option aC :=
 match dr with
 |true=>match OZ P ops with
  |some (pm,l)=>if TY ops.toList pm l&&P.follows .mixedOrders then some (.reg true l) else none
  |none=>none
 |false=>match wC P true ops ops.toList with
  |some l=>some (.reg false l)
  |none=>none
theorem Uc{ops:Array Oper}{pm:List Nat}{l:List aT}(h:OZ P ops=some (pm,l)): ∀ p o,l[p]? =some o-> ∃ oo o' fl ne ad ar,ops[pm.getD p 0]? =some oo/\ug P false ops oo=some o'/\o= {o' with fl:=fl,ne:=ne,ad:=ad,ar:=ar}:=by
 intro p o hp;unfold OZ at h;split at h
 ·rename_i l0 h0;simp only at h;split at h
  ·rename_i l1 h1;cases h;obtain⟨o',fl,ne,ad,ar,h2,rfl⟩:=abQ hp;have h3:=V3 h1 h2;have hlt:(order ops.toList l0 ops.size []).getD p 0<ops.toList.length:=by
    have:=Ee h0;obtain⟨h7,-⟩:=bo.mp h3;omega
   have h4:ops.toList[(order ops.toList l0 ops.size []).getD p 0]? =some (ops.toList[(order ops.toList l0 ops.size []).getD p 0]'hlt):=bS hlt;obtain⟨o'',h5,h6⟩:=Ua h0 h4;rw[h3] at h5;cases h5;exact⟨_,o',fl,ne,ad,ar,by simp,h6,rfl⟩
  ·cases h
 ·cases h
def comp(P:Program):Code->Option aC
 | .skip=>some .skip
 | .region _ ops dr=>NH P ops dr
 | .seq a b=>match comp P a,comp P b with
  |some a,some b=>some (.seq a b)
  |_,_=>none
 | .cond c a b=>match aY c,comp P a,comp P b with
  |some c,some a,some b=>some (.cond c a b)
  |_,_,_=>none
 | .block id b=>(comp P b).map (.blk id)
 | .exit id=>some (.exit id)
 | .loop b=>(comp P b).map .loop
 | .ret=>some .ret
 |_=>none
def YC:qL->Exit
 | .normal=>.normal
 | .exit id=>.exit id
 | .ret=>.ret
noncomputable def Env.shut(E:Env)(Z:Nat->Prop):Env :=
 open Classical in {E with S:=fun g=>E.S g\/ ∃ i ob,Z i/\E.h i=some ob/\rowB (E.φ i)=some g,h:=fun i=>if Z i then none else E.h i}
theorem y5{E:Env}{Z:Nat->Prop}{i:Nat}{ob:Ob}(h:(E.shut Z).h i=some ob):E.h i=some ob/\ ¬ Z i:=by
 simp only[Env.shut] at h;split at h
 ·cases h
 ·rename_i hz; exact⟨h,hz⟩
theorem EX{E:Env}{Z:Nat->Prop}{i:Nat}(h:((E.shut Z).h i).isSome=true):(E.h i).isSome=true/\ ¬ Z i:=by
 obtain⟨ob,hob⟩:=am.1 h;obtain⟨h1,h2⟩:=y5 hob;exact⟨by rw[h1]; rfl,h2⟩
theorem yM{E:Env}{Z:Nat->Prop}{i:Nat}(h: ¬ Z i):(E.shut Z).h i=E.h i:=by
 simp only[Env.shut,bB h]
theorem lI(E:Env)(Z M:Nat->Prop):Keeps E (E.shut Z) M :=
 ⟨fun _ h=>.inl h,fun _ _=>rfl,fun _ _ hi=>⟨(EX hi).1,rfl,rfl⟩,rfl⟩
theorem xu(l:List T):T.aO (fun _=>True) l:=cu.2 fun t _=>pF t
theorem qY.shut{F:Fr P}{E:Env}(hk:qY F E)(Z:Nat->Prop):qY F (E.shut Z):=by
 refine⟨fun i ob hi=>?_,fun i ob g hi hg=>?_,fun i j oi oj g hij hi hj=>hk.sep i j oi oj g hij (y5 hi).1 (y5 hj).1,fun g hg=>?_,hk.flt,fun g hs hf=>?_,hk.gl⟩
 ·obtain⟨k1,k2,k3⟩:=hk.obs i ob (y5 hi).1;exact⟨k1.keep (lI E Z (fun _=>True)) (xu _) (fun _ _=>rfl),k2,k3⟩
 ·obtain⟨h1,h2⟩:=y5 hi;obtain⟨k1,k2⟩:=hk.out i ob g h1 hg;refine⟨fun hs=>?_,k2⟩;rcases hs with hs|⟨j,oj,hz,hj,hgj⟩
  ·exact k1 hs
  ·exact hk.sep i j ob oj g (fun e=>h2 (e▸hz)) h1 hj hg hgj
 ·rcases hg with hg|⟨j,oj,hz,hj,hgj⟩
  ·exact hk.slt g hg
  ·exact(hk.obs j oj hj).1.lt hgj
 ·rcases hs with hs|⟨j,oj,hz,hj,hgj⟩
  ·exact hk.sf g hs hf
  ·exact(hk.out j oj g hj hgj).2 hf
theorem V4(F:Fr P)(E:Env)(Z:Nat->Prop):Ext F E (E.shut Z) :=
 ⟨fun _ h=>.inl h,fun _ _=>rfl,ba _,rfl,rfl,rfl,ba _,rfl⟩
theorem QE{F:Fr P}{E:Env}(hk:qY F E){Z:Nat->Prop}{k i:Nat}{l:List T}{vs:List Value}(hz:Z i)(hf:T.bn l=true)(hnm:k≠gK){ty:TypeId}(ho:E.h i=some ⟨ty,k,l⟩)(h:aN E (.own i) vs) :
  aN (E.shut Z) (.sl k false l) vs:=by
 simp only[aN] at h ⊢;obtain⟨u,rfl,h2⟩:=h;have hu:=h2 (by rw[ho]; rfl);subst hu;obtain⟨k1,_,_⟩:=hk.obs i _ ho;rcases k1.row hnm with ⟨a,h3,h4⟩|⟨g,c,cur,h3,h4,h5,h6,h7,h8⟩
 ·simp only at h4; subst h4;exact⟨a,0,by rw[h3]; rfl,ba _,by simp,.inl rfl⟩
 ·refine⟨_,_,by rw[h3],h4,by simp,.inr ⟨g,0,cur,_,_,rfl,.inr ⟨i,_,hz,ho,by rw[h3]; rfl⟩,h6,dh hf,?_⟩⟩;exact eX _ _ _ (lI E Z (fun _=>True)) (xu _) _ h8
theorem QF{F:Fr P}{E:Env}(hk:qY F E){Z:Nat->Prop}{k i j:Nat}{t:T}{l':List T}{vs:List Value}(hz:Z i)(hf:T.free t=true)(hnm:k≠gK){ty:TypeId}(ho:E.h i=some ⟨ty,k,l'⟩)(hj:l'[j]? =some t)
  (h:aN E (.ptr i j 0) vs):aN (E.shut Z) (.ref k t) vs:=by
 simp only[aN] at h;obtain⟨u,rfl,h2⟩:=h;obtain⟨b,n,c,hφ,rfl⟩:=h2 (by rw[ho]; rfl);obtain⟨k1,GI,_⟩:=hk.obs i _ ho;have hjl:j<l'.length:=(bo.1 hj).1;rcases k1.row hnm with ⟨a,_,h6⟩|⟨g,c',cur,h6,h7,h8,h9,h10,h11⟩
 ·simp only at h6; subst h6; simp at hjl
 ·rw[hφ] at h6;simp only[Value.slice.injEq,bi,Addr.mk.injEq] at h6;obtain⟨⟨rfl,_⟩,rfl,rfl⟩:=h6;have h12:aJ (E.shut Z) k l' cur.toList:=eX _ _ _ (lI E Z (fun _=>True)) (xu _) _ h11;obtain⟨g1,g2,g3⟩:=vF h12 hjl;have ht:l'.getD j .any=t:=by rw[ab,hj]; rfl
  rw[ht] at g1 g3;simp only[aN];refine⟨b,j*bD k,cur,_,_,by rw[GI]; simp,.inr ⟨i,_,hz,ho,by rw[hφ]; rfl⟩,h9,g1,eY hf,by rw[cA]; omega,g3.2⟩
theorem QG{F:Fr P}{E:Env}(hk:qY F E){Z:Nat->Prop}{k i lo hi:Nat}{l l':List T}{vs:List Value}(hz:Z i)(hf:T.bn l=true)(hnm:k≠gK){ty:TypeId}(ho:E.h i=some ⟨ty,k,l'⟩)(hle:hi<=l'.length)(hl:l=(l'.take hi).drop lo)(h:aN E (.rG i lo hi) vs) :
  aN (E.shut Z) (.sl k false l) vs:=by
 simp only[aN] at h;obtain⟨u,rfl,h2⟩:=h;obtain⟨ad,n,c,hφ,h3,h4,h5,rfl⟩:=h2 (by rw[ho]; rfl);obtain⟨k1,GI,_⟩:=hk.obs i _ ho;have hrow:l'=[]\/ ∃ b off cur e m,ad=some ⟨b,off,none⟩/\(E.shut Z).S b/\(E.shut Z).w.heap[b]? =some (.cells cur e m)/\off=0/\aJ (E.shut Z) k l' (cur.toList.drop off):=by
  rcases k1.row hnm with ⟨a,_,h6⟩|⟨g,c',cur,h6,h7,h8,h9,h10,h11⟩
  ·exact .inl h6
  ·rw[hφ] at h6;simp only[Value.slice.injEq] at h6;obtain⟨rfl,_,_⟩:=h6;refine .inr ⟨g,0,cur,_,_,rfl,.inr ⟨i,_,hz,ho,by rw[hφ,show c=(c-1)+1 by omega]; rfl⟩,h9,rfl,?_⟩;exact eX _ _ _ (lI E Z (fun _=>True)) (xu _) _ h11
 subst hl;have hlen:((l'.take hi).drop lo).length=hi-lo:=by simp; omega
 simp only[aN];refine⟨_,_,by rw[hlen],by omega,by simp,?_⟩;by_cases he:lo=hi
 ·exact .inl (ai (by omega))
 ·have hne:l'≠[]:=by rintro rfl; simp at hle; omega
  obtain⟨b,off,cur,e,m,rfl,hS,hh,rfl,hr⟩:=hrow.resolve_left hne;refine .inr ⟨b,0+lo*bD k,cur,e,m,?_,hS,hh,dh hf,?_⟩
  ·rw[bB (by omega),GI]; simp[addr_add]
  ·rw[<- dm];exact DJ (yL hr hi) lo (by simp; omega)
theorem MI{Z:Nat->Prop}{h:Hp}: ∀ {l l':List T},T.dY Z h l l'->l.length=l'.length:=by
 intro l;induction l with
 |nil=>intro l' h; cases l'<;>simp_all[T.dY]
 |cons t ts ih=>intro l' h; cases l' with
  |nil=>simp[T.dY] at h
  |cons t' ts'=>simp only[T.dY] at h; simp[ih h.2]
mutual
theorem ahr{Z:Nat->Prop}{h:Hp}{M:Nat->Prop}:(t t':T)->T.sub Z h t t'->t'.ids M->t.ids M
 | .any,_,_,_=>by simp[T.ids]
 | .sl _ _ _,_,_,_=>by simp[T.ids]
 | .agg l,t',hs,hm=>by
  cases t'<;>simp only[T.sub] at hs<;>try (cases hs; done)
  simp only[T.ids] at hm ⊢;exact uh l _ hs hm
 | .dD l,t',hs,hm=>by
  cases t'<;>simp only[T.sub] at hs<;>try (cases hs; done)
  simp only[T.ids] at hm ⊢;exact uh l _ hs hm
 | .lit _,_,_,_=>by simp[T.ids]
 | .ref _ _,_,_,_=>by simp[T.ids]
 | .own i,t',hs,hm=>by
  have:t'= .own i:=by cases t'<;>simp only[T.sub] at hs<;>first|exact hs.symm|(cases hs; done)
  subst this; exact hm
 | .ptr i j off,t',hs,hm=>by
  have:t'= .ptr i j off:=by cases t'<;>simp only[T.sub] at hs<;>first|exact hs.symm|(cases hs; done)
  subst this; exact hm
 | .rG i lo hi,t',hs,hm=>by
  have:t'= .rG i lo hi:=by cases t'<;>simp only[T.sub] at hs<;>first|exact hs.symm|(cases hs; done)
  subst this; exact hm
 | .fn f cap,t',hs,hm=>by
  have:t'= .fn f cap:=by cases t'<;>simp only[T.sub] at hs<;>first|exact hs.symm|(cases hs; done)
  subst this; exact hm
theorem uh{Z:Nat->Prop}{h:Hp}{M:Nat->Prop}:(l l':List T)->T.dY Z h l l'->T.aO M l'->T.aO M l
 |[],_,_,_=>by simp[T.aO]
 |t::ts,[],hs,_=>by simp[T.dY] at hs
 |t::ts,t'::ts',hs,hm=>by
  simp only[T.dY,T.aO] at hs hm ⊢;exact⟨ahr t t' hs.1 hm.1,uh ts ts' hs.2 hm.2⟩
end
mutual
theorem EY{F:Fr P}{E:Env}(hk:qY F E){Z:Nat->Prop}:(t t':T)->T.sub Z E.h t t'->(vs:List Value)->(t.kd=0->t'.kd≠0->False)->aN E t' vs->aN (E.shut Z) t vs
 | .any,_,_,_,_,_=>by simp[aN]
 | .sl k f l,t',hs,vs,_,h=>by
  cases t'<;>simp only[T.sub] at hs<;>try (cases hs; done)
  ·rename_i k' f' l';obtain⟨hl',hk',hf⟩:=hs;rcases hl' with rfl|⟨hsub,hkd⟩
   ·have h:=iE _ (fun _=>True) (lI E Z _) (pF _) _ h;simp only[aN] at h ⊢;obtain⟨a,c,h1,h2,h3,h4⟩:=h;refine⟨a,c,h1,h2,fun h=>h3 (hf h),?_⟩;by_cases hl:l=[]
    ·exact .inl hl
    ·have:=hk'.resolve_right hl;subst this; exact h4
   ·simp only[aN] at h ⊢;obtain⟨a,c,h1,h2,h3,h4⟩:=h;have hlen:=MI hsub;refine⟨a,c,by rw[hlen]; exact h1,by rw[hlen]; exact h2,fun h=>by rw[hlen]; exact h3 (hf h),?_⟩;by_cases hl:l=[]
    ·exact .inl hl
    ·have:=hk'.resolve_right hl;subst this;rcases h4 with h4|⟨b,off,cur,e,m,ha,hb,hh,hid,hr⟩
     ·subst h4; exact absurd (ai hlen) hl
     ·exact .inr ⟨b,off,cur,e,m,ha,.inl hb,hh,uh _ _ hsub hid,EZ hk l _ hsub _ hkd hr⟩
  ·obtain⟨rfl,hz,hf,hnm,ty,ho⟩:=hs;exact QE hk hz hf hnm ho h
  ·obtain⟨rfl,hz,hf,hnm,ty,l',ho,hle,hl⟩:=hs;exact QG hk hz hf hnm ho hle hl h
 | .agg l,t',hs,vs,_,h=>by
  cases t'<;>simp only[T.sub] at hs<;>try (cases hs; done)
  simp only[aN] at h ⊢;exact Sl hk l _ hs vs h
 | .dD l,t',hs,vs,_,h=>by
  cases t'<;>simp only[T.sub] at hs<;>try (cases hs; done)
  simp only[aN] at h ⊢;obtain⟨cs,h1,h2⟩:=h;exact⟨cs,h1,sO hk l _ hs _ h2⟩
 | .lit v,t',hs,vs,_,h=>by
  have:t'= .lit v:=by cases t'<;>simp only[T.sub] at hs<;>first|exact hs.symm|(cases hs; done)
  subst this; exact iE _ (fun _=>True) (lI E Z _) (pF _) _ h
 | .ref k t,t',hs,vs,_,h=>by
  cases t'<;>simp only[T.sub] at hs<;>try (cases hs; done)
  ·rw[<- hs] at h; exact iE _ (fun _=>True) (lI E Z _) (pF _) _ h
  ·obtain⟨rfl,hz,hf,hnm,ty,l',ho,hj⟩:=hs;exact QF hk hz hf hnm ho hj h
 | .own i,t',hs,vs,_,h=>by
  have:t'= .own i:=by cases t'<;>simp only[T.sub] at hs<;>first|exact hs.symm|(cases hs; done)
  subst this; exact iE _ (fun _=>True) (lI E Z _) (pF _) _ h
 | .ptr i j off,t',hs,vs,_,h=>by
  have:t'= .ptr i j off:=by cases t'<;>simp only[T.sub] at hs<;>first|exact hs.symm|(cases hs; done)
  subst this; exact iE _ (fun _=>True) (lI E Z _) (pF _) _ h
 | .rG i lo hi,t',hs,vs,_,h=>by
  have:t'= .rG i lo hi:=by cases t'<;>simp only[T.sub] at hs<;>first|exact hs.symm|(cases hs; done)
  subst this; exact iE _ (fun _=>True) (lI E Z _) (pF _) _ h
 | .fn f cap,t',hs,vs,_,h=>by
  have:t'= .fn f cap:=by cases t'<;>simp only[T.sub] at hs<;>first|exact hs.symm|(cases hs; done)
  subst this; exact iE _ (fun _=>True) (lI E Z _) (pF _) _ h
theorem Sl{F:Fr P}{E:Env}(hk:qY F E){Z:Nat->Prop}:(l l':List T)->T.dY Z E.h l l'->(vs:List Value)->aX E l' vs->aX (E.shut Z) l vs
 |[],[],_,vs,h=>by simpa [aX] using h
 |t::ts,t'::ts',hs,vs,h=>by
  simp only[T.dY] at hs;simp only[aX] at h ⊢;obtain⟨hkk,v,r,h1,h0,h2,h3⟩:=h;have hkd:t.kd=0:=by
   cases t with
   |agg l=>cases t'<;>simp[T.sub,T.kd] at hs hkk
   |_=>rfl
  exact⟨hkd,v,r,h1,h0,EY hk t t' hs.1 _ (fun _ h=>h hkk) h2,Sl hk ts ts' hs.2 _ h3⟩
 |[],_::_,hs,_,_=>by simp[T.dY] at hs
 |_::_,[],hs,_,_=>by simp[T.dY] at hs
theorem sO{F:Fr P}{E:Env}(hk:qY F E){Z:Nat->Prop}:(l l':List T)->T.dY Z E.h l l'->(vs:List Value)->bg E l' vs->bg (E.shut Z) l vs
 |[],[],_,vs,h=>by simpa [bg] using h
 |t::ts,t'::ts',hs,vs,h=>by
  simp only[T.dY] at hs;simp only[bg] at h ⊢;obtain⟨v,r,h1,h2,h3⟩:=h;refine⟨v,r,h1,?_,sO hk ts ts' hs.2 _ h3⟩;by_cases ha:t= .any
  ·subst ha; exact .inr ⟨rfl,by simp[aN]⟩
  ·have hkd:t.kd=0↔t'.kd=0:=by
    cases t<;>cases t'<;>simp[T.sub,T.kd] at hs ha ⊢
   rcases h2 with ⟨g1,cs,g2,g3⟩|⟨g1,g2⟩
   ·exact .inl ⟨fun h0=>g1 (hkd.1 h0),cs,g2,EY hk t t' hs.1 _ (fun a b=>b (hkd.1 a)) g3⟩
   ·exact .inr ⟨hkd.2 g1,EY hk t t' hs.1 _ (fun _ b=>b g1) g2⟩
 |[],_::_,hs,_,_=>by simp[T.dY] at hs
 |_::_,[],hs,_,_=>by simp[T.dY] at hs
theorem EZ{F:Fr P}{E:Env}(hk:qY F E){Z:Nat->Prop}{k:Nat}:(l l':List T)->T.dY Z E.h l l'->(vs:List Value)->(∀ t∈l,t.kd=k)->aJ E k l' vs->aJ (E.shut Z) k l vs
 |[],_,_,_,_,_=>by simp[aJ]
 |t::ts,[],hs,_,_,_=>by simp[T.dY] at hs
 |t::ts,t'::ts',h,vs,hkd,hr=>by
  simp only[T.dY] at h;simp only[aJ] at hr ⊢;obtain⟨h1,h2,h3,h4,h5⟩:=hr;have hkt:=hkd t (by simp);exact⟨hkt,h2,h3,EY hk t t' h.1 _ (fun a b=>b (by rw[h1,<- hkt]; exact a)) h4,EZ hk ts ts' h.2 _ (fun t ht=>hkd t (by simp[ht])) h5⟩
end
theorem O1{F:Fr P}{E:Env}(hk:qY F E){Z:Nat->Prop}{t t':T}(h:T.sub Z E.h t t'){v:Value}(hr:lZ E t' v):lZ (E.shut Z) t v:=by
 have:=sO hk (Z:=Z) [t] [t'] ⟨h,by simp[T.dY]⟩ [v] (by rw[bQ]; exact⟨v,[],rfl,hr,by simp[bg]⟩);rw[bQ] at this;obtain⟨v',r,h1,h2,_⟩:=this;cases h1; exact h2
theorem xZ(ρ:Nat->Nat): ∀ l:List T,(T.dF ρ l).length=l.length:=by
 intro l;induction l with
 |nil=>rfl
 |cons t ts ih=>simp[T.dF,ih]
theorem uQ(ρ:Nat->Nat)(t:T):(t.ren ρ).kd=t.kd:=by
 cases t<;>simp[T.ren,T.kd,xZ]
def Env.ren(E:Env)(ρ:Nat->Nat)(h:Hp):Env:= {w:=E.w,S:=E.S,φ:=fun i=>E.φ (ρ i),κ:=fun i=>E.κ (ρ i),h:=h,y:=E.y}
mutual
theorem zU{E:Env}{ρ:Nat->Nat}{h:Hp}(hl: ∀ i,(h i).isSome=true->(E.h (ρ i)).isSome=true):(t:T)->(vs:List Value)->aN E (t.ren ρ) vs->aN (E.ren ρ h) t vs
 | .lit v,vs,H=>by simpa [aN,T.ren] using H
 | .agg l,vs,H=>by simp only[aN,T.ren] at H ⊢; exact KZ hl l vs H
 | .sl k f l,vs,H=>by
  simp only[aN,T.ren] at H ⊢;obtain⟨a,c,h1,h2,h3,h4⟩:=H;refine⟨a,c,h1,h2,h3,?_⟩;rcases h4 with h4|⟨b,off,cur,e,m,ha,hb,hh,hf,hr⟩
  ·exact .inl h4
  ·exact .inr ⟨b,off,cur,e,m,ha,hb,hh,hf,eX (E:=E) (E':=E.ren ρ h) l k _ ⟨fun _ h=>h,fun _ _=>rfl,fun _ hf=>hf.elim,rfl⟩ hf _ hr⟩
 | .ref k t,vs,H=>by
  simp only[aN,T.ren] at H ⊢;obtain⟨b,off,cur,e,m,h1,hb,hh,hk,hf,hl',hr⟩:=H;exact⟨b,off,cur,e,m,h1,hb,hh,hk,hf,hl',iE (E:=E) (E':=E.ren ρ h) t _ ⟨fun _ h=>h,fun _ _=>rfl,fun _ hf=>hf.elim,rfl⟩ hf _ hr⟩
 | .own i,vs,H=>by
  simp only[aN,T.ren] at H ⊢;obtain⟨u,h1,h2⟩:=H;exact⟨u,h1,fun hd=>h2 (hl i hd)⟩
 | .ptr i j off,vs,H=>by
  simp only[aN,T.ren] at H ⊢;obtain⟨u,h1,h2⟩:=H;exact⟨u,h1,fun hd=>h2 (hl i hd)⟩
 | .rG i lo hi,vs,H=>by
  simp only[aN,T.ren] at H ⊢;obtain⟨u,h1,h2⟩:=H;exact⟨u,h1,fun hd=>h2 (hl i hd)⟩
 | .fn f cap,vs,H=>by
  simp only[aN,T.ren] at H ⊢;rcases H with ⟨h0,cs,h1,h2⟩|⟨h0,p,hp,hf,h1,h2⟩
  ·exact .inl ⟨h0,cs,h1,KZ hl cap _ h2⟩
  ·exact .inr ⟨h0,p,hp,hf,h1,xw hl cap _ h2⟩
 | .dD l,vs,H=>by
  simp only[aN,T.ren] at H ⊢;obtain⟨cs,h1,h2⟩:=H;exact⟨cs,h1,xw hl l _ h2⟩
 | .any,vs,H=>by simp[aN]
theorem KZ{E:Env}{ρ:Nat->Nat}{h:Hp}(hl: ∀ i,(h i).isSome=true->(E.h (ρ i)).isSome=true):(l:List T)->(vs:List Value)->aX E (T.dF ρ l) vs->aX (E.ren ρ h) l vs
 |[],vs,H=>by simpa [aX,T.dF] using H
 |t::ts,vs,H=>by
  simp only[aX,T.dF] at H ⊢;obtain⟨hk,v,r,h1,h0,h2,h3⟩:=H;exact⟨by rw[<- uQ ρ]; exact hk,v,r,h1,h0,zU hl t _ h2,KZ hl ts _ h3⟩
theorem xw{E:Env}{ρ:Nat->Nat}{h:Hp}(hl: ∀ i,(h i).isSome=true->(E.h (ρ i)).isSome=true):(l:List T)->(vs:List Value)->bg E (T.dF ρ l) vs->bg (E.ren ρ h) l vs
 |[],vs,H=>by simpa [bg,T.dF] using H
 |t::ts,vs,H=>by
  simp only[bg,T.dF] at H ⊢;obtain⟨v,r,h1,h2,h3⟩:=H;refine⟨v,r,h1,?_,xw hl ts _ h3⟩;rcases h2 with ⟨hk,cs,h4,h5⟩|⟨hk,h4⟩
  ·exact .inl ⟨by rw[<- uQ ρ]; exact hk,cs,h4,zU hl t _ h5⟩
  ·exact .inr ⟨by rw[<- uQ ρ]; exact hk,zU hl t _ h4⟩
end
theorem V5{E:Env}{ρ:Nat->Nat}{h:Hp}(hl: ∀ i,(h i).isSome=true->(E.h (ρ i)).isSome=true){k:Nat}: ∀ (l:List T) (vs:List Value),aJ E k (T.dF ρ l) vs->aJ (E.ren ρ h) k l vs:=by
 intro l;induction l with
 |nil=>intro vs _; simp[aJ]
 |cons t ts ih =>
  intro vs H;simp only[aJ,T.dF] at H ⊢;obtain⟨h1,h2,h3,h4,h5⟩:=H;exact⟨by rw[<- uQ ρ]; exact h1,h2,h3,zU hl t _ h4,ih _ h5⟩
theorem YD{F:Fr P}{E:Env}(hk:qY F E){Z:Nat->Prop}: ∀ {l l':List T} {es:List MapEntry},l.all iw=true->T.dY Z E.h l l'->fK E l' es->fK (E.shut Z) l es:=by
 intro l;induction l with
 |nil=>intro l' es _ hs h; cases l' with
  |nil=>exact h
  |cons _ _=>simp[T.dY] at hs
 |cons t ts ih =>
  intro l' es he hs h;simp only[eC,aD] at he;have he1:=he.1;cases l' with
  |nil=>simp[T.dY] at hs
  |cons t' ts' =>
   simp only[T.dY] at hs;simp only[fK] at h ⊢;obtain⟨n,u,e,r,rfl,rfl,h1,h2,h3,h4,h5⟩:=h;have hs1:=hs.1;cases t with
   |dD l =>
    simp only[T.sub] at hs1;match l,hs1 with
    |[x,y],hs1 =>
     simp only[T.dY,and_true] at hs1;obtain⟨hx,hy⟩:=hs1;have hkd:y.kd=0:=by
      cases y with
      |agg l=>cases u<;>simp[T.sub,T.kd] at hy h2
      |_=>rfl
     cases x with
     |lit v =>
      simp only[T.sub] at hx;cases hx;exact⟨n,y,e,r,rfl,rfl,h1,hkd,h3,EY hk y u hy _ (fun _ b=>b h2) h4,ih he.2 hs.2 h5⟩
     |_=>simp[iw] at he1
    |[],hs1=>simp[T.dY] at hs1
    |[x],hs1=>simp[T.dY] at hs1
    |x::y::z::w,hs1=>simp[T.dY] at hs1
   |_=>simp[iw] at he1
theorem YE{E:Env}{ρ:Nat->Nat}{h:Hp}(hl: ∀ i,(h i).isSome=true->(E.h (ρ i)).isSome=true): ∀ {l:List T} {es:List MapEntry},fK E (T.dF ρ l) es->fK (E.ren ρ h) l es:=by
 intro l;induction l with
 |nil=>intro es H; simpa [fK,T.dF] using H
 |cons t ts ih =>
  intro es H;simp only[fK,T.dF] at H ⊢;obtain⟨n,u,e,r,h0,rfl,h1,h2,h3,h4,h5⟩:=H;cases t with
  |dD l =>
   simp only[T.ren,T.dD.injEq] at h0;match l,h0 with
   |[x,y],h0 =>
    simp only[T.dF,eI,and_true] at h0;obtain⟨hx,rfl⟩:=h0
    have:x= .lit n:=by cases x<;>simp[T.ren] at hx ⊢; exact hx
    subst this;exact⟨n,y,e,r,rfl,rfl,h1,by rw[<- uQ ρ]; exact h2,h3,zU hl y _ h4,ih h5⟩
   |[],h0=>simp[T.dF] at h0
   |[x],h0=>simp[T.dF] at h0
   |x::y::z::w,h0=>simp[T.dF] at h0
  |_=>simp[T.ren] at h0
theorem abR{ρ:Nat->Nat}: ∀ {l:List T},l.all iw=true->(T.dF ρ l).all iw=true:=by
 intro l;induction l with
 |nil=>intro _; rfl
 |cons t ts ih =>
  intro h;simp only[eC,aD,T.dF] at h ⊢;refine⟨?_,ih h.2⟩;have h1:=h.1;unfold iw at h1;split at h1
  ·simp[T.ren,T.dF,iw]
  ·cases h1
theorem uN.ren{F:Fr P}{E:Env}(hk:qY F E){Z:Nat->Prop}{ρ:Nat->Nat}{h:Hp}(hl: ∀ i,(h i).isSome=true->((E.shut Z).h (ρ i)).isSome=true){ob ob':Ob}{v:Value}(H:uN E ob' v)(hs:Ov Z E.h ρ ob ob'):uN ((E.shut Z).ren ρ h) ob v:=by
 have hlen:ob.l.length=ob'.l.length:=by rw[<- MI hs.l,xZ]
 rcases H with ⟨hnm,⟨a,h1,h2⟩|⟨g,c,cur,h1,h2,h3,h4,h5,h6⟩⟩|⟨hmk,g,es,cl,h1,h2,h3⟩
 ·exact .inl ⟨by rw[<- hs.k]; exact hnm,.inl ⟨a,h1,ai (by rw[hlen,h2]; rfl)⟩⟩
 ·rw[hs.k] at hnm;refine .inl ⟨hnm,.inr ⟨g,c,cur,by rw[hlen]; exact h1,by rw[hlen]; exact h2,h3,by rw[<- hs.ty]; exact h4,by rw[<- hs.k]; exact h5,?_⟩⟩;refine V5 hl _ _ ?_;rw[hs.k] at h6;refine EZ hk _ _ hs.l _ (fun t ht=>?_) h6
  have: ∀ (l:List T),(∀ t∈l,t.kd=ob.k)-> ∀ t∈T.dF ρ l,t.kd=ob.k:=by
   intro l;induction l with
   |nil=>intro _ t ht; simp[T.dF] at ht
   |cons x xs ih =>
    intro hx t ht;simp only[T.dF,bv] at ht;rcases ht with rfl|ht
    ·rw[uQ]; exact hx x (by simp)
    ·exact ih (fun t ht=>hx t (by simp[ht])) t ht
  exact this _ (hs.kd.resolve_left fun h=>hnm h.1).2 t ht
 ·exact .inr ⟨by rw[<- hs.k]; exact hmk,g,es,cl,h1,h2,YE hl (YD hk (abR (hs.kd.resolve_right fun h=>h.1 (by rw[<- hs.k]; exact hmk)).2) hs.l h3)⟩
theorem qY.ren{F:Fr P}{E:Env}{Z:Nat->Prop}{ρ:Nat->Nat}{h:Hp}(hk:qY F E)(hs: ∀ i ob,h i=some ob-> ∃ ob',E.h (ρ i)=some ob'/\ ¬ Z (ρ i)/\Ov Z E.h ρ ob ob')
  (inj: ∀ i j,(h i).isSome=true->(h j).isSome=true->ρ i=ρ j->i=j):qY F ((E.shut Z).ren ρ h):=by
 have hl: ∀ i,(h i).isSome=true->((E.shut Z).h (ρ i)).isSome=true:=fun i hi=>by
  obtain⟨ob,hob⟩:=am.1 hi;obtain⟨ob',h1,h2,_⟩:=hs i ob hob;rw[yM h2,h1]; rfl
 have hk':=hk.shut Z;refine⟨fun i ob hi=>?_,fun i ob g hi hg=>?_,fun i j oi oj g hij hi hj hgi hgj=>?_,hk'.slt,hk'.flt,hk'.sf,hk'.gl⟩
 ·obtain⟨ob',h1,_,h2⟩:=hs i ob hi;obtain⟨k1,k2,k3⟩:=hk.obs _ _ h1;exact⟨k1.ren hk hl h2,by show E.κ (ρ i)=_; rw[k2,h2.k],by rw[<- h2.k]; exact k3⟩
 ·obtain⟨ob',h1,h2,_⟩:=hs i ob hi;exact hk'.out _ _ g (by rw[yM h2]; exact h1) hg
 ·obtain⟨oi',h1,_⟩:=hs i oi hi;obtain⟨QH,h2,_⟩:=hs j oj hj;refine hk.sep (ρ i) (ρ j) oi' QH g (fun e=>hij (inj i j ?_ ?_ e)) h1 h2 hgi hgj
  ·have hi':h i=some oi:=hi;rw[hi']; rfl
  ·have hj':h j=some oj:=hj;rw[hj']; rfl
theorem ag9.sound{F:Fr P}{M:Nat->Prop}{E:Env}{s s':AS}{a:Act}{Z:Nat->Prop}{ρ:Nat->Nat}(W:ag9 Z ρ s s')(R:Rel F M E s' a) :
  ∃ E',E'.w=E.w/\Rel F (· <s.nx) E' s a/\Ext F E E'/\Same E E' (· <s.pin)/\s.pin=s'.pin:=by
 have hl: ∀ i,(s.hp i).isSome=true->((E.shut Z).h (ρ i)).isSome=true:=fun i hi=>by
  obtain⟨ob,hob⟩:=am.1 hi;obtain⟨ob',h1,h2,_⟩:=W.hp i ob hob;rw[yM h2,R.he,h1]; rfl
 have hfr:=W.fr;rw[<- R.he] at hfr;refine⟨(E.shut Z).ren ρ s.hp,rfl,⟨?_,rfl,?_,R.df,W.mf,W.mh⟩,⟨fun _ h=>.inl h,fun _ _=>rfl,ba _,rfl,rfl,rfl,ba _,rfl⟩,?_,W.pin⟩
 ·exact R.hk.ren (fun i ob hi=>by rw[R.he]; exact W.hp i ob hi) W.inj
 ·exact xw hl _ _ (sO R.hk _ _ hfr _ R.fr)
 ·intro i hi hs;have hρ:=W.fix i hi hs;refine⟨?_,?_,?_⟩
  ·have:=hl i hs; rw[hρ] at this; exact(EX this).1
  ·show E.φ (ρ i)=_; rw[hρ]
  ·show E.κ (ρ i)=_; rw[hρ]
def Env.nil(E:Env)(n:Nat)(v:Value)(ob:Ob)(h0:Hp):Env:= {w:=E.w,S:=E.S,φ:=fun i=>if i=n then v else E.φ i,κ:=fun i=>if i=n then ob.k else E.κ i,h:=upd h0 n (some ob),y:=E.y}
theorem Ju{E:Env}{M:Nat->Prop}{n:Nat}(hn: ¬ M n){v:Value}{ob:Ob}{h0:Hp}(h0': ∀ i,(h0 i).isSome=true->(E.h i).isSome=true):Same E (E.nil n v ob h0) M:=by
 intro i hi hs;have hne:i≠n:=fun e=>hn (e▸hi)
 simp only[Env.nil,upd,hne,cW] at hs ⊢;exact⟨h0' i hs,trivial,trivial⟩
theorem wE{ad:Option Addr}:rowB (.slice ad 0 0)=none:=by cases ad<;>rfl
theorem TJ.sound{F:Fr P}{E:Env}{s s':AS}{a:Act}(h:TJ s s')(R:Rel F (· <s'.nx) E s' a)(hp:s'.pin<=s'.nx) :
  ∃ E',E'.w=E.w/\Rel F (· <s.nx) E' s a/\Ext F E E'/\Same E E' (· <s.pin)/\s.pin=s'.pin/\s.pin<=s.nx:=by
 obtain⟨i,k',ty,k,hg,hk,rfl⟩:=h;obtain⟨hsz,hnm⟩:=DK hk;have hi:i<s'.fr.length:=by
  by_cases h:i<s'.fr.length
  ·exact h
  ·rw[ab,cv (by omega)] at hg; cases hg
 have hgu:s'.fr.getD i T.un= .sl k' true []:=by
  rw[ab,bS hi] at hg ⊢; exact hg
 have hv:=zH R.fr i;rw[hgu,aB rfl] at hv;simp only[aN] at hv;obtain⟨ad,c,hu,_,hc,_⟩:=hv;have hc0:c=0:=by simpa using hc
 subst hc0;have hval:a.tmps.toList.getD i undef= .slice ad 0 0:=by simpa using hu
 have hn: ¬ (s'.nx<s'.nx):=gw _;have hS:Same E (E.nil s'.nx (.slice ad 0 0) ⟨ty,k,[]⟩ s'.hp) (· <s'.nx):=Ju (M:=(· <s'.nx)) hn (fun i h=>by rw[R.he]; exact h);have hext:Ext F E (E.nil s'.nx (.slice ad 0 0) ⟨ty,k,[]⟩ s'.hp):=⟨fun _ h=>h,fun _ _=>rfl,ba _,rfl,rfl,rfl,ba _,rfl⟩
 have hK:Keeps E (E.nil s'.nx (.slice ad 0 0) ⟨ty,k,[]⟩ s'.hp) (· <s'.nx):=.of hext hS;have hne: ∀ j oj,s'.hp j=some oj->j≠s'.nx:=fun j oj hj e=>by have:=(R.mh j oj hj).1; omega
 have hok:qY F (E.nil s'.nx (.slice ad 0 0) ⟨ty,k,[]⟩ s'.hp):=by
  refine⟨fun j oj hj=>?_,fun j oj g hj hg=>?_,fun p q op oq g hpq hp hq hgp hgq=>?_,R.hk.slt,R.hk.flt,R.hk.sf,R.hk.gl⟩
  ·by_cases hjn:j=s'.nx
   ·subst hjn;simp only[Env.nil,upd,cn,bi] at hj;subst hj;exact⟨.inl ⟨hnm,.inl ⟨ad,by simp[Env.nil],rfl⟩⟩,by simp[Env.nil],hsz⟩
   ·simp only[Env.nil,upd,hjn,cW] at hj;obtain⟨k1,k2,k3⟩:=R.hk.obs j oj (by rw[R.he]; exact hj);refine⟨?_,by simp[Env.nil,hjn,k2],k3⟩
    have:(E.nil s'.nx (.slice ad 0 0) ⟨ty,k,[]⟩ s'.hp).φ j=E.φ j:=by simp[Env.nil,hjn]
    rw[this];exact k1.keep hK (R.mh j oj hj).2 (fun _ _=>rfl)
  ·by_cases hjn:j=s'.nx
   ·subst hjn; simp only[Env.nil,cn,wE] at hg; cases hg
   ·simp only[Env.nil,upd,hjn,cW] at hj hg;exact R.hk.out j oj g (by rw[R.he]; exact hj) hg
  ·by_cases hpn:p=s'.nx
   ·subst hpn; simp only[Env.nil,cn,wE] at hgp; cases hgp
   ·by_cases hqn:q=s'.nx
    ·subst hqn; simp only[Env.nil,cn,wE] at hgq; cases hgq
    ·simp only[Env.nil,upd,hpn,hqn,cW] at hp hq hgp hgq;exact R.hk.sep p q op oq g hpq (by rw[R.he]; exact hp) (by rw[R.he]; exact hq) hgp hgq
 refine⟨E.nil s'.nx (.slice ad 0 0) ⟨ty,k,[]⟩ s'.hp,rfl,⟨hok,rfl,?_,R.df,?_,?_⟩,hext,?_,rfl,?_⟩
 ·have h1:=jd _ _ hK R.mf _ R.fr;have h2:=F6 h1 i (t:=.own s'.nx) (v:=.slice ad 0 0) (by rw[aB rfl]; simp only[aN]; exact⟨_,rfl,fun _=>by simp[Env.nil]⟩);have h3:a.tmps.toList.set i (.slice ad 0 0)=a.tmps.toList:=by
   rw[<- hval,ab];have hi':i<a.tmps.toList.length:=by rw[qw R.fr]; exact hi
   rw[bS hi',eL];exact List.set_getElem_self hi'
  rw[h3] at h2; exact h2
 ·exact xW (T.aA (fun j hj=>dT hj) _ R.mf) (by simp[T.ids])
 ·intro j oj hj;by_cases hjn:j=s'.nx
  ·subst hjn;simp only[upd,cn,bi] at hj;subst hj; exact⟨by show s'.nx<s'.nx+1; omega,by simp[T.aO]⟩
  ·simp only[upd,hjn,cW] at hj;exact⟨dT (R.mh j oj hj).1,T.aA (fun _ h=>dT h) _ (R.mh j oj hj).2⟩
 ·exact hS.weaken fun j hj=>cU hj hp
 ·exact Nat.le_succ_of_le hp
theorem TK.sound{F:Fr P}{E:Env}{s s':AS}{a:Act}(h:TK s s')(R:Rel F (· <s'.nx) E s' a)(hp:s'.pin<=s'.nx) :
  ∃ E',E'.w=E.w/\Rel F (· <s.nx) E' s a/\Ext F E E'/\Same E E' (· <s.pin)/\s.pin=s'.pin/\s.pin<=s.nx:=by
 obtain⟨jj,cc,k',ty,k,oty,cs,hob,hcl,hg,hk,hjj,rfl⟩:=h;obtain⟨hsz,hnm⟩:=DK hk;have fF:E.h jj=some ⟨oty,cs.length+1,[.agg cs]⟩:=by rw[R.he]; exact hob
 obtain⟨k1,k2,k3⟩:=R.hk.obs jj _ fF;have key:cs.length+1≠gK-> ∃ g c' cur,E.φ jj= .slice (some ⟨g,0,none⟩) 1 (c'+1)/\1<=c'+1/\c'+1<=maxLen/\E.w.heap[g]? =some (.cells cur oty (0,0))/\cur.size=(c'+1)*cs.length/\aJ E (cs.length+1) [.agg cs] cur.toList:=by
  intro hne;rcases k1.row hne with ⟨_,_,h2⟩|⟨g,c',cur,h1,h2,h3,h4,h5,h6⟩
  ·cases h2
  ·exact⟨g,c',cur,h1,h2,h3,h4,h5,h6⟩
 rcases Nat.decEq (cs.length+1) gK with hne|heq
 rotate_left
 ·
  obtain⟨g,es,cl,h1,h2,h3⟩:=k1.map heq;simp only[fK] at h3;obtain⟨n,u,e,r,h4,_⟩:=h3;cases h4
 obtain⟨g,c',cur,hφ,hc1,hcm,hh,hcs,hr⟩:=key hne;simp only[aJ,bD] at hr;obtain⟨_,hlen,hone,hrep,_⟩:=hr;simp only[aN] at hrep;obtain⟨v,hvv,_,_,hrv⟩:=RH hrep hcl;rw[hg] at hrv;simp only[aN] at hrv;obtain⟨ad,c,hu,_,hc,_⟩:=hrv;have hc0:c=0:=by simpa using hc
 subst hc0;have hval:v= .slice ad 0 0:=by simpa using hu
 have hn: ¬ (s'.nx<s'.nx):=gw _;have hjn:jj≠s'.nx:=by omega
 let h0:Hp:=upd s'.hp jj (some ⟨oty,cs.length+1,[.agg (cs.set cc (.own s'.nx))]⟩)
 let E':Env:=E.nil s'.nx (.slice ad 0 0) ⟨ty,k,[]⟩ h0
 have hS:Same E E' (· <s'.nx):=Ju (M:=(· <s'.nx)) hn (fun i h=>by
  by_cases hij:i=jj
  ·rw[hij,fF]; rfl
  ·rw[R.he]; simpa [h0,upd,hij] using h)
 have hext:Ext F E E':=⟨fun _ h=>h,fun _ _=>rfl,ba _,rfl,rfl,rfl,ba _,rfl⟩
 have hK:Keeps E E' (· <s'.nx):=.of hext hS;have hold: ∀ j oj,E'.h j=some oj->j≠s'.nx->j≠jj->E.h j=some oj:=fun j oj hj h1 h2=>by
  rw[R.he]; simpa [E',Env.nil,h0,upd,h1,h2] using hj
 have YF: ∀ j oj,E'.h j=some oj->j≠s'.nx-> ∃ QH,E.h j=some QH:=fun j oj hj h1=>by
  by_cases h2:j=jj
  ·exact⟨_,by rw[h2]; exact fF⟩
  ·exact⟨oj,hold j oj hj h1 h2⟩
 have hφ': ∀ j,j≠s'.nx->E'.φ j=E.φ j:=fun j h1=>by simp[E',Env.nil,h1]
 have hset: ∀ (l:List T) (i:Nat) (ws:List Value),aX E' l ws->ws[i]? =some (.slice ad 0 0)->i<l.length->aX E' (l.set i (.own s'.nx)) ws:=by
  intro l;induction l with
  |nil=>intro i ws _ _ hi; simp at hi
  |cons t ts ih =>
   intro i ws h hw hi;simp only[aX] at h;obtain⟨h1,u,r,rfl,h2,h3,h4⟩:=h;cases i with
   |zero =>
    simp at hw; subst hw;simp only[eV,aX];exact⟨rfl,_,r,rfl,h2,by simp only[aN]; exact⟨_,rfl,fun _=>by simp[E',Env.nil]⟩,h4⟩
   |succ i =>
    simp only[List.set_cons_succ,aX];exact⟨h1,u,r,rfl,h2,h3,ih i r h4 (by simpa using hw) (by simpa using hi)⟩
 have hcells:aX E' (cs.set cc (.own s'.nx)) (cur.toList.take cs.length):=by
  refine hset cs cc _ (DI _ _ hK ?_ _ hrep) ?_ hcl
  ·have:=(R.mh jj _ hob).2; simpa [T.aO,T.ids] using this
  ·rw[hvv,hval]
 have hok:qY F E':=by
  refine⟨fun j oj hj=>?_,fun j oj b hj hb=>?_,fun p q op oq b hpq hp hq hbp hbq=>?_,R.hk.slt,R.hk.flt,R.hk.sf,R.hk.gl⟩
  ·by_cases h1:j=s'.nx
   ·subst h1;simp only[E',Env.nil,upd,cn,bi] at hj;subst hj;exact⟨.inl ⟨hnm,.inl ⟨ad,by simp[E',Env.nil],rfl⟩⟩,by simp[E',Env.nil],hsz⟩
   ·rw[hφ' j h1];have aei:E'.κ j=E.κ j:=by simp[E',Env.nil,h1]
    rw[aei];by_cases h2:j=jj
    ·subst h2;simp only[E',Env.nil,h0,upd,h1,cW,cn,bi] at hj;subst hj;refine⟨.inl ⟨hne,.inr ⟨g,c',cur,hφ,hc1,hcm,hh,hcs,?_⟩⟩,k2,k3⟩;simp only[aJ,bD,T.kd,dv,aN];exact⟨trivial,hlen,hone,hcells,trivial⟩
    ·have hj':=hold j oj hj h1 h2;obtain⟨q1,q2,q3⟩:=R.hk.obs j oj hj';exact⟨q1.keep hK (R.mh j oj (by rw[<- R.he]; exact hj')).2 (fun _ _=>rfl),q2,q3⟩
  ·by_cases h1:j=s'.nx
   ·subst h1; simp only[E',Env.nil,cn,wE] at hb; cases hb
   ·rw[hφ' j h1] at hb;obtain⟨QH,hj'⟩:=YF j oj hj h1;exact R.hk.out j QH b hj' hb
  ·by_cases h1:p=s'.nx
   ·subst h1; simp only[E',Env.nil,cn,wE] at hbp; cases hbp
   ·by_cases h2:q=s'.nx
    ·subst h2; simp only[E',Env.nil,cn,wE] at hbq; cases hbq
    ·rw[hφ' p h1] at hbp; rw[hφ' q h2] at hbq;obtain⟨op',hp'⟩:=YF p op hp h1;obtain⟨Yp,hq'⟩:=YF q oq hq h2;exact R.hk.sep p q op' Yp b hpq hp' hq' hbp hbq
 refine⟨E',rfl,⟨hok,rfl,jd _ _ hK R.mf _ R.fr,R.df,T.aA (fun _ h=>dT h) _ R.mf,?_⟩,hext,?_,rfl,?_⟩
 ·intro j oj hj;by_cases h1:j=s'.nx
  ·subst h1;simp only[upd,cn,bi] at hj;subst hj; exact⟨by show s'.nx<s'.nx+1; omega,by simp[T.aO]⟩
  ·by_cases h2:j=jj
   ·subst h2;simp only[upd,h1,cW,cn,bi] at hj;subst hj;have:=(R.mh j _ hob).2;simp only[T.aO,T.ids] at this ⊢;exact⟨dT hjj,xW (T.aA (fun _ h=>dT h) _ this.1) (by simp[T.ids]),trivial⟩
   ·simp only[upd,h1,h2,cW] at hj;exact⟨dT (R.mh j oj hj).1,T.aA (fun _ h=>dT h) _ (R.mh j oj hj).2⟩
 ·exact hS.weaken fun j hj=>cU hj hp
 ·exact Nat.le_succ_of_le hp
theorem Yl.sound{F:Fr P}{E:Env}{s s':AS}{a:Act}(h:Yl s s')(R:Rel F (· <s'.nx) E s' a)(hp:s'.pin<=s'.nx) :
  ∃ E',E'.w=E.w/\Rel F (· <s.nx) E' s a/\Ext F E E'/\Same E E' (· <s.pin)/\s.pin=s'.pin/\s.pin<=s.nx:=by
 obtain⟨jj,k',ty,k,oty,hob,hk,hjj,rfl⟩:=h;obtain⟨hsz,hnm⟩:=DK hk;have fF:E.h jj=some ⟨oty,0,[.sl k' true []]⟩:=by rw[R.he]; exact hob
 obtain⟨k1,k2,k3⟩:=R.hk.obs jj _ fF;have hne:(0:Nat)≠gK:=by decide
 obtain⟨g,c',cur,hφ,hc1,hcm,hh,hcs,hr⟩: ∃ g c' cur,E.φ jj= .slice (some ⟨g,0,none⟩) 1 (c'+1)/\1<=c'+1/\c'+1<=maxLen/\E.w.heap[g]? =some (.cells cur oty (0,0))/\cur.size=(c'+1)*1/\aJ E 0 [.sl k' true []] cur.toList:=by
  rcases k1.row hne with ⟨_,_,h2⟩|⟨g,c',cur,h1,h2,h3,h4,h5,h6⟩
  ·cases h2
  ·exact⟨g,c',cur,h1,h2,h3,h4,h5,h6⟩
 simp only[aJ,bD] at hr;obtain⟨_,hlen,hone,hrep,_⟩:=hr;simp only[aN] at hrep;obtain⟨ad,c,hu,_,hc,_⟩:=hrep;have hc0:c=0:=by simpa using hc
 subst hc0;have hval:cur.toList.take 1=[.slice ad 0 0]:=by simpa using hu
 have hn: ¬ (s'.nx<s'.nx):=gw _;have hjn:jj≠s'.nx:=by omega
 let h0:Hp:=upd s'.hp jj (some ⟨oty,0,[.own s'.nx]⟩)
 let E':Env:=E.nil s'.nx (.slice ad 0 0) ⟨ty,k,[]⟩ h0
 have hS:Same E E' (· <s'.nx):=Ju (M:=(· <s'.nx)) hn (fun i h=>by
  by_cases hij:i=jj
  ·rw[hij,fF]; rfl
  ·rw[R.he]; simpa [h0,upd,hij] using h)
 have hext:Ext F E E':=⟨fun _ h=>h,fun _ _=>rfl,ba _,rfl,rfl,rfl,ba _,rfl⟩
 have hK:Keeps E E' (· <s'.nx):=.of hext hS;have hold: ∀ j oj,E'.h j=some oj->j≠s'.nx->j≠jj->E.h j=some oj:=fun j oj hj h1 h2=>by
  rw[R.he]; simpa [E',Env.nil,h0,upd,h1,h2] using hj
 have YF: ∀ j oj,E'.h j=some oj->j≠s'.nx-> ∃ QH,E.h j=some QH:=fun j oj hj h1=>by
  by_cases h2:j=jj
  ·exact⟨_,by rw[h2]; exact fF⟩
  ·exact⟨oj,hold j oj hj h1 h2⟩
 have hφ': ∀ j,j≠s'.nx->E'.φ j=E.φ j:=fun j h1=>by simp[E',Env.nil,h1]
 have hok:qY F E':=by
  refine⟨fun j oj hj=>?_,fun j oj b hj hb=>?_,fun p q op oq b hpq hp hq hbp hbq=>?_,R.hk.slt,R.hk.flt,R.hk.sf,R.hk.gl⟩
  ·by_cases h1:j=s'.nx
   ·subst h1;simp only[E',Env.nil,upd,cn,bi] at hj;subst hj;exact⟨.inl ⟨hnm,.inl ⟨ad,by simp[E',Env.nil],rfl⟩⟩,by simp[E',Env.nil],hsz⟩
   ·rw[hφ' j h1];have aei:E'.κ j=E.κ j:=by simp[E',Env.nil,h1]
    rw[aei];by_cases h2:j=jj
    ·subst h2;simp only[E',Env.nil,h0,upd,h1,cW,cn,bi] at hj;subst hj;refine⟨.inl ⟨hne,.inr ⟨g,c',cur,hφ,hc1,hcm,hh,hcs,?_⟩⟩,k2,k3⟩;simp only[aJ,bD,T.kd,aN];exact⟨trivial,hlen,hone,⟨_,hval,fun _=>by simp[E',Env.nil]⟩,trivial⟩
    ·have hj':=hold j oj hj h1 h2;obtain⟨q1,q2,q3⟩:=R.hk.obs j oj hj';exact⟨q1.keep hK (R.mh j oj (by rw[<- R.he]; exact hj')).2 (fun _ _=>rfl),q2,q3⟩
  ·by_cases h1:j=s'.nx
   ·subst h1; simp only[E',Env.nil,cn,wE] at hb; cases hb
   ·rw[hφ' j h1] at hb;obtain⟨QH,hj'⟩:=YF j oj hj h1;exact R.hk.out j QH b hj' hb
  ·by_cases h1:p=s'.nx
   ·subst h1; simp only[E',Env.nil,cn,wE] at hbp; cases hbp
   ·by_cases h2:q=s'.nx
    ·subst h2; simp only[E',Env.nil,cn,wE] at hbq; cases hbq
    ·rw[hφ' p h1] at hbp; rw[hφ' q h2] at hbq;obtain⟨op',hp'⟩:=YF p op hp h1;obtain⟨Yp,hq'⟩:=YF q oq hq h2;exact R.hk.sep p q op' Yp b hpq hp' hq' hbp hbq
 refine⟨E',rfl,⟨hok,rfl,jd _ _ hK R.mf _ R.fr,R.df,T.aA (fun _ h=>dT h) _ R.mf,?_⟩,hext,?_,rfl,?_⟩
 ·intro j oj hj;by_cases h1:j=s'.nx
  ·subst h1;simp only[upd,cn,bi] at hj;subst hj; exact⟨by show s'.nx<s'.nx+1; omega,by simp[T.aO]⟩
  ·by_cases h2:j=jj
   ·subst h2;simp only[upd,h1,cW,cn,bi] at hj;subst hj;exact⟨dT hjj,by simp[T.aO,T.ids]⟩
   ·simp only[upd,h1,h2,cW] at hj;exact⟨dT (R.mh j oj hj).1,T.aA (fun _ h=>dT h) _ (R.mh j oj hj).2⟩
 ·exact hS.weaken fun j hj=>cU hj hp
 ·exact Nat.le_succ_of_le hp
theorem Ox.sound{F:Fr P}{E:Env}{s s':AS}{a:Act}(h:Ox s s')(R:Rel F (· <s'.nx) E s' a)(hp:s'.pin<=s'.nx) :
  ∃ E',E'.w=E.w/\Rel F (· <s.nx) E' s a/\Ext F E E'/\Same E E' (· <s.pin)/\s.pin=s'.pin/\s.pin<=s.nx:=by
 obtain⟨jj,ii,hi,ob,hg,hob,hin,hle,hnm,rfl⟩:=h;have hj:jj<s'.fr.length:=by
  by_cases h:jj<s'.fr.length
  ·exact h
  ·rw[ab,cv (by omega)] at hg; cases hg
 have hgu:s'.fr.getD jj T.un= .rG ii 0 hi:=by
  rw[ab,bS hj] at hg ⊢; exact hg
 have hv:=zH R.fr jj;rw[hgu,aB rfl] at hv;simp only[aN] at hv;obtain⟨u,hu,hlive⟩:=hv;have fF:E.h ii=some ob:=by rw[R.he]; exact hob
 obtain⟨ad,nn,c,hφ,_,hl2,hl3,hu'⟩:=hlive (by rw[fF]; rfl);obtain⟨k1,k2,k3⟩:=R.hk.obs ii ob fF;have hval:a.tmps.toList.getD jj undef= .slice ad hi c:=by
  have h1:a.tmps.toList.getD jj undef=u:=by simpa using hu
  rw[h1,hu'];simp only[Nat.zero_mul,Nat.sub_zero];split
  ·rfl
  ·cases ad with
   |none=>rfl
   |some ad =>
    rcases k1.row hnm with ⟨_,h3,_⟩|⟨g,c',cur,h3,_⟩
    ·rw[hφ] at h3; simp at h3; omega
    ·rw[hφ] at h3; simp at h3; rw[h3.1]; simp[addr_add]
 have hn: ¬ (s'.nx<s'.nx):=gw _;have hne:ii≠s'.nx:=by omega
 let h0:Hp:=upd s'.hp ii none
 let E':Env:=E.nil s'.nx (.slice ad hi c) ⟨ob.ty,ob.k,ob.l.take hi⟩ h0
 have hS:Same E E' (· <s'.nx):=Ju (M:=(· <s'.nx)) hn (fun i h=>by
  by_cases hij:i=ii
  ·simp[h0,upd,hij] at h
  ·rw[R.he]; simpa [h0,upd,hij] using h)
 have hext:Ext F E E':=⟨fun _ h=>h,fun _ _=>rfl,ba _,rfl,rfl,rfl,ba _,rfl⟩
 have hK:Keeps E E' (· <s'.nx):=.of hext hS;have hold: ∀ j oj,E'.h j=some oj->j≠s'.nx->j≠ii/\E.h j=some oj:=fun j oj hj h1=>by
  by_cases h2:j=ii
  ·subst h2; simp[E',Env.nil,h0,upd,h1] at hj
  ·exact⟨h2,by rw[R.he]; simpa [E',Env.nil,h0,upd,h1,h2] using hj⟩
 have hφ': ∀ j,j≠s'.nx->E'.φ j=E.φ j:=fun j h1=>by simp[E',Env.nil,h1]
 have xq:E'.φ s'.nx= .slice ad hi c:=by simp[E',Env.nil]
 have hrow:VI E' ⟨ob.ty,ob.k,ob.l.take hi⟩ (.slice ad hi c):=by
  rcases k1.row hnm with ⟨a',h3,h4⟩|⟨g,c',cur,h3,h4,h5,h6,h7,h8⟩
  ·rw[hφ] at h3; simp at h3;have hh0:hi=0:=by omega
   refine .inl ⟨ad,by rw[hh0,h3.2.2],by simp[h4]⟩
  ·rw[hφ] at h3;simp only[Value.slice.injEq] at h3;obtain⟨rfl,rfl,rfl⟩:=h3;refine .inr ⟨g,c',cur,by simp; omega,by simp; omega,h5,h6,h7,?_⟩;exact yL (eX _ _ _ hK (R.mh ii ob hob).2 _ h8) hi
 have hblk: ∀ g,rowB (.slice ad hi c)=some g->rowB (E.φ ii)=some g:=fun g hg=>by
  rw[hφ]; revert hg; cases ad<;>cases c<;>simp[rowB]
 have hok:qY F E':=by
  refine⟨fun j oj hj=>?_,fun j oj b hj hb=>?_,fun p q op oq b hpq hp hq hbp hbq=>?_,R.hk.slt,R.hk.flt,R.hk.sf,R.hk.gl⟩
  ·by_cases h1:j=s'.nx
   ·subst h1;simp only[E',Env.nil,upd,cn,bi] at hj;subst hj;exact⟨.inl ⟨hnm,by rw[xq]; exact hrow⟩,by simp[E',Env.nil],k3⟩
   ·obtain⟨h2,hj'⟩:=hold j oj hj h1;rw[hφ' j h1];have aei:E'.κ j=E.κ j:=by simp[E',Env.nil,h1]
    rw[aei];obtain⟨q1,q2,q3⟩:=R.hk.obs j oj hj';exact⟨q1.keep hK (R.mh j oj (by rw[<- R.he]; exact hj')).2 (fun _ _=>rfl),q2,q3⟩
  ·by_cases h1:j=s'.nx
   ·subst h1; rw[xq] at hb; exact R.hk.out ii ob b fF (hblk b hb)
   ·rw[hφ' j h1] at hb;exact R.hk.out j oj b (hold j oj hj h1).2 hb
  ·by_cases h1:p=s'.nx
   ·subst h1;have h2:q≠s'.nx:=fun e=>hpq e.symm
    rw[xq] at hbp; rw[hφ' q h2] at hbq;obtain⟨g1,g2⟩:=hold q oq hq h2;exact R.hk.sep ii q ob oq b (Ne.symm g1) fF g2 (hblk b hbp) hbq
   ·by_cases h2:q=s'.nx
    ·subst h2;rw[xq] at hbq; rw[hφ' p h1] at hbp;obtain⟨g1,g2⟩:=hold p op hp h1;exact R.hk.sep p ii op ob b g1 g2 fF hbp (hblk b hbq)
    ·rw[hφ' p h1] at hbp; rw[hφ' q h2] at hbq;exact R.hk.sep p q op oq b hpq (hold p op hp h1).2 (hold q oq hq h2).2 hbp hbq
 refine⟨E',rfl,⟨hok,rfl,?_,R.df,?_,?_⟩,hext,?_,rfl,?_⟩
 ·have h1:=jd _ _ hK R.mf _ R.fr;have h2:=F6 h1 jj (t:=.own s'.nx) (v:=.slice ad hi c) (by rw[aB rfl]; simp only[aN]; exact⟨_,rfl,fun _=>xq.symm⟩);have h3:a.tmps.toList.set jj (.slice ad hi c)=a.tmps.toList:=by
   rw[<- hval,ab];have hi':jj<a.tmps.toList.length:=by rw[qw R.fr]; exact hj
   rw[bS hi',eL];exact List.set_getElem_self hi'
  rw[h3] at h2; exact h2
 ·exact xW (T.aA (fun j hj=>dT hj) _ R.mf) (by simp[T.ids])
 ·intro j oj hj;by_cases h1:j=s'.nx
  ·subst h1;simp only[upd,cn,bi] at hj;subst hj; exact⟨by show s'.nx<s'.nx+1; omega,T.aA (fun _ h=>dT h) _ (yV (R.mh ii ob hob).2 _)⟩
  ·by_cases h2:j=ii
   ·simp[upd,h2,hne] at hj
   ·simp only[upd,h1,h2,cW] at hj;exact⟨dT (R.mh j oj hj).1,T.aA (fun _ h=>dT h) _ (R.mh j oj hj).2⟩
 ·exact hS.weaken fun j hj=>cU hj hp
 ·exact Nat.le_succ_of_le hp
theorem ahs: ∀ t:T,t.ren id=t:=by
 intro t;apply T.rec (motive_1:=fun t=>t.ren id=t) (motive_2:=fun l=>T.dF id l=l);all_goals (intros; simp_all[T.ren,T.dF])
theorem CJ: ∀ l:List T,T.dF id l=l:=by
 intro l;induction l with
 |nil=>rfl
 |cons t ts ih=>simp[T.dF,ih,ahs]
theorem YG{E:Env}{k:Nat}: ∀ {l:List T} {vs:List Value},aJ E k l vs-> ∀ t∈l,t.kd=k:=by
 intro l;induction l with
 |nil=>intro vs _ t ht; cases ht
 |cons x xs ih =>
  intro vs h t ht;simp only[aJ] at h;obtain⟨h1,_,_,_,h5⟩:=h;rcases bv.1 ht with rfl|ht
  ·exact h1
  ·exact ih h5 t ht
theorem Ud{E:Env}: ∀ {l:List T} {es:List MapEntry},fK E l es->l.all iw=true:=by
 intro l;induction l with
 |nil=>intro es _; rfl
 |cons x xs ih =>
  intro es h;simp only[fK] at h;obtain⟨n,u,e,r,rfl,_,_,_,_,_,h7⟩:=h;rw[eC,ih h7]; rfl
theorem uN.kinds{E:Env}{ob:Ob}{v:Value}(h:uN E ob v):(ob.k=gK/\ob.l.all iw=true)\/(ob.k≠gK/\ ∀ t∈ob.l,t.kd=ob.k):=by
 rcases h with ⟨hk,⟨a,_,hl⟩|⟨g,c,cur,_,_,_,_,_,hr⟩⟩|⟨hk,g,es,cl,_,_,hr⟩
 ·exact .inr ⟨hk,fun t ht=>by rw[hl] at ht; cases ht⟩
 ·exact .inr ⟨hk,YG hr⟩
 ·exact .inl ⟨hk,Ud hr⟩
theorem La{k:Nat}: ∀ {l l':List T},l.map T.kd=l'.map T.kd->(∀ t∈l',t.kd=k)-> ∀ t∈l,t.kd=k:=by
 intro l l' h hl t ht
 have:t.kd∈l'.map T.kd:=by rw[<- h]; exact ax.2 ⟨t,ht,rfl⟩
 obtain⟨u,hu,e⟩:=ax.1 this;rw[<- e]; exact hl u hu
theorem O4: ∀ {l l':List T},l.map iw=l'.map iw->l'.all iw=true->l.all iw=true:=by
 intro l l' h hl;rw[bj] at hl ⊢;intro t ht
 have:iw t∈l'.map iw:=by rw[<- h]; exact ax.2 ⟨t,ht,rfl⟩
 obtain⟨u,hu,e⟩:=ax.1 this;rw[<- e]; exact hl u hu
theorem adU.wk{F:Fr P}{E:Env}{s s':AS}{a:Act}{Z:Nat->Prop}(W:adU Z s s')(R:Rel F (· <s'.nx) E s' a)(hp:s'.pin<=s'.nx):ag9 Z id s s':=by
 refine⟨by rw[CJ]; exact W.fr,fun i ob hi=>?_,fun i j _ _ e=>e,?_,fun i ob hi=>?_,W.pin,by rw[W.nx]; exact hp,fun i _ _=>rfl⟩
 ·obtain⟨ob',h1,h2,h3,h4,h5,h6,h7⟩:=W.hp i ob hi;refine⟨ob',h1,h2,h3,h4,by rw[CJ]; exact h5,?_⟩;have hk:=(R.hk.obs i ob' (by rw[R.he]; exact h1)).1.kinds;rw[<- h4];rcases hk with ⟨g1,g2⟩|⟨g1,g2⟩
  ·exact .inl ⟨g1,O4 h7 g2⟩
  ·exact .inr ⟨g1,La h6 g2⟩
 ·rw[W.nx]; exact uh _ _ W.fr R.mf
 ·obtain⟨ob',h1,h2,h3,h4,h5,h6,h7⟩:=W.hp i ob hi;obtain⟨g1,g2⟩:=R.mh i ob' h1;rw[W.nx];exact⟨g1,uh _ _ h5 g2⟩
theorem IJ.sound{F:Fr P}{s s':AS}{a:Act}(h:IJ s s'): ∀ {E:Env},Rel F (· <s'.nx) E s' a->s'.pin<=s'.nx ->
  ∃ E',E'.w=E.w/\Rel F (· <s.nx) E' s a/\Ext F E E'/\Same E E' (· <s.pin)/\s.pin=s'.pin/\s.pin<=s.nx:=by
 induction h with
 |refl=>intro E R hp; exact⟨E,rfl,R,Ext.refl _ _,Same.refl _ _,rfl,hp⟩
 |slot h _ ih =>
  intro E R hp;obtain⟨E1,h1,R1,x1,s1,p1,q1⟩:=h.sound R hp;obtain⟨E2,h2,R2,x2,s2,p2,q2⟩:=ih R1 q1;exact⟨E2,h2.trans h1,R2,x1.trans x2,by rw[p2] at s2 ⊢; exact s1.trans s2 fun _ h=>h,p2.trans p1,q2⟩
 |cell h _ ih =>
  intro E R hp;obtain⟨E1,h1,R1,x1,s1,p1,q1⟩:=h.sound R hp;obtain⟨E2,h2,R2,x2,s2,p2,q2⟩:=ih R1 q1;exact⟨E2,h2.trans h1,R2,x1.trans x2,by rw[p2] at s2 ⊢; exact s1.trans s2 fun _ h=>h,p2.trans p1,q2⟩
 |box h _ ih =>
  intro E R hp;obtain⟨E1,h1,R1,x1,s1,p1,q1⟩:=h.sound R hp;obtain⟨E2,h2,R2,x2,s2,p2,q2⟩:=ih R1 q1;exact⟨E2,h2.trans h1,R2,x1.trans x2,by rw[p2] at s2 ⊢; exact s1.trans s2 fun _ h=>h,p2.trans p1,q2⟩
 |take h _ ih =>
  intro E R hp;obtain⟨E1,h1,R1,x1,s1,p1,q1⟩:=h.sound R hp;obtain⟨E2,h2,R2,x2,s2,p2,q2⟩:=ih R1 q1;exact⟨E2,h2.trans h1,R2,x1.trans x2,by rw[p2] at s2 ⊢; exact s1.trans s2 fun _ h=>h,p2.trans p1,q2⟩
 |fz h _ ih =>
  intro E R hp;have W:=h.wk R hp;obtain⟨E1,h1,R1,x1,s1,p1⟩:=W.sound R;obtain⟨E2,h2,R2,x2,s2,p2,q2⟩:=ih R1 (by rw[p1]; exact W.le);exact⟨E2,h2.trans h1,R2,x1.trans x2,by rw[p2] at s2 ⊢; exact s1.trans s2 fun _ h=>h,p2.trans p1,q2⟩
theorem Wk.sound{F:Fr P}{E:Env}{s s':AS}{a:Act}(h:Wk s s')(R:Rel F (· <s'.nx) E s' a)(hp:s'.pin<=s'.nx) :
  ∃ E',E'.w=E.w/\Rel F (· <s.nx) E' s a/\Ext F E E'/\Same E E' (· <s.pin)/\s.pin=s'.pin/\s.pin<=s.nx:=by
 obtain⟨s1,hN,rfl|⟨Z,ρ,W⟩⟩:=h
 ·exact hN.sound R hp
 obtain⟨E1,h1,R1,x1,t1,p1,q1⟩:=hN.sound R hp;obtain⟨E2,h2,R2,x2,t2,p2⟩:=W.sound R1;refine⟨E2,h2.trans h1,R2,x1.trans x2,?_,p2.trans p1,?_⟩
 ·rw[p2] at t2 ⊢; exact t1.trans t2 fun _ h=>h
 ·have:=W.le; rw[p2]; exact this
end
section
variable {P:Program}
def Sm(E:Env):Env:= {E with w:= {E.w with drawn:=E.w.drawn+1}}
theorem Rel.drew{F:Fr P}{M:Nat->Prop}{E:Env}{s:AS}{a:Act}(R:Rel F M E s a):Rel F M (Sm E) s a:=by
 have hK: ∀ M,Keeps E (Sm E) M:=fun M=>⟨fun _ h=>h,fun _ _=>rfl,fun _ _ h=>⟨h,rfl,rfl⟩,rfl⟩
 refine⟨⟨fun i ob hi=>?_,R.hk.out,R.hk.sep,R.hk.slt,R.hk.flt,R.hk.sf,R.hk.gl⟩,R.he,jd _ M (hK M) R.mf _ R.fr,R.df,R.mf,R.mh⟩;obtain⟨k1,k2,k3⟩:=R.hk.obs i ob hi;exact⟨k1.keep (hK M) (R.mh i ob (by rw[<- R.he]; exact hi)).2 (fun _ _=>rfl),k2,k3⟩
theorem aej(F:Fr P)(E:Env):Ext F E (Sm E):=⟨fun _ h=>h,fun _ _=>rfl,ba _,rfl,rfl,rfl,Nat.le_succ _,rfl⟩
def O5(F:Fr P)(E:Env)(pn:Nat)(Q:qL->AS->Prop)(e:Exit)(a':Act)(w':World):Prop :=
 ∃ ae E' s',e=YC ae/\E'.w=w'/\Q ae s'/\Rel F (· <s'.nx) E' s' a'/\s'.pin=pn/\pn<=s'.nx/\Ext F E E'/\Same E E' (· <pn)
theorem O5.after{F:Fr P}{E E':Env}{pn:Nat}{Q:qL->AS->Prop}{e:Exit}{a':Act}{w':World}(hext:Ext F E E')(hs:Same E E' (· <pn))(h:O5 F E' pn Q e a' w'):O5 F E pn Q e a' w':=by
 obtain⟨ae,E'',s',h1,h2,h3,h4,h5,h6,h7,h8⟩:=h;exact⟨ae,E'',s',h1,h2,h3,h4,h5,h6,hext.trans h7,hs.trans h8 fun _ h=>h⟩
theorem V6(r:Option Nat){F:Fr P}{E:Env}{s:AS}{a:Act}{id:Nat}{ops:Array Oper}{dr:Bool}{ac:aC}(hc:NH P ops dr=some ac){Q:qL->AS->Prop}(h:aw P ac Q s)(hp:s.pin<=s.nx)(R:Rel F (· <s.nx) E s a) :
  (Code.region id ops dr).wpIn (wd r) 0 P (O5 F E s.pin Q) a E.w:=by
 have fin: ∀ (l:List aT),l.length=ops.size-> ∀ E₀,Ext F E E₀->Same E E₀ (· <s.pin)-> ∀ E' s' a',(s'.pin=s.pin/\Q .normal {s' with nx:=s.nx+l.length})->Rel F (· <s.nx+ops.size) E' s' a'->Ext F E₀ E'->Same E₀ E' (· <s.nx) ->
   O5 F E s.pin Q .normal a' E'.w:=by
  intro l hlen E₀ h1 h2 E' s' a' ⟨h3,h4⟩ h5 h6 h7;refine⟨.normal,E',_,rfl,rfl,h4,?_,h3,by show s.pin<=s.nx+l.length; omega,h1.trans h6,h2.trans h7 fun i hi=>cU hi hp⟩;have:=h5.nx (s.nx+l.length);show Rel F (· <s.nx+l.length) E' _ a';rw[hlen];rw[hlen] at this;exact this
 cases dr with
 |true =>
  simp only[NH] at hc;split at hc
  ·rename_i pm l hl;split at hc
   ·rename_i hd;cases hc;rw[aD] at hd;simp only[aw] at h;have hfl:=Uc hl;have hlen:l.length=ops.size:=by
     have:=hd.1;simp only[TY,aD,bt,bu] at this;exact this.1.1.2
    have hI:=akh (nx:=s.nx) (pn:=s.pin) rfl rfl h;refine wpIn_region_any hd.2 ?_;have anF:QD pm l (Array.replicate ops.size false)=l.zipIdx:=by
     unfold QD;rw[List.filter_eq_self];rintro⟨o,p⟩ hm;have:=List.mem_zipIdx hm;have hpl:p<l.length:=by omega
     obtain⟨oo,_,_,_,_,_,h1,_⟩:=hfl p _ (bS hpl);have hi:pm.getD p 0<ops.size:=(cm.1 h1).1;rw[dj,Array.getElem?_replicate,bc hi];rfl
    rw[<- anF] at hI;have hg: ∀ i,i<ops.size->(Array.replicate ops.size false).getD i true=false:=fun i hi=>by simp[Array.getD_eq_getD_getElem?,hi]
    refine YB (r0:=r) hfl hd.1 (nx:=s.nx) (E₀:=Sm E) (fun E' s' a' h1 h2 h3 h4=>fin l hlen (Sm E) (aej F E) (fun _ _ h=>⟨h,rfl,rfl⟩) E' s' a' h1 h2 h3 h4)
     ops.size _ (Sm E) s a (by simp) (fun i o hi hl'=>?_) ?_ rfl (R.drew.weaken fun j hj=>.inl hj) (Ext.refl _ _) (Same.refl _ _) hI
    ·exfalso
     have:i<ops.size:=by rw[bo] at hi; simpa using hi.1
     rw[hg i this] at hl'; cases hl'
    ·exact di (fw _ _) (by simp)
   ·cases hc
  ·cases hc
 |false =>
  simp only[NH] at hc;split at hc
  ·rename_i l hl;cases hc;have hlen:=Ee hl;simp only[bu] at hlen;simp only[aw] at h;refine wpIn_region_list ?_;refine YA (r0:=r) (n0:=s.nx) (pn:=s.pin) (E₀:=E) (i:=0) (fun E' s' a' i hn hp' h1 h2 hi h3 h4=>?_) hl (by simp) (ba _) rfl R (Ext.refl _ _) (Same.refl _ _) h;refine⟨.normal,E',_,rfl,rfl,h1,?_,hp',by show s.pin<=s'.nx+l.length; omega,h3,h4.weaken fun i hi=>cU hi hp⟩;exact(h2.nx _).weaken fun j hj=>by show j<s'.nx+l.length; omega
  ·cases hc
theorem wpIn_loop_ghost{F:Fence}{n:Nat}{Q:Exit->Act->World->Prop}{a:Act}{w:World}{c:Code}(I:Nat->Act->World->Prop)(n₀:Nat)(h₀:I n₀ a w)
  (round: ∀ m a w,I m a w->c.wpIn F n P (Exit.then (fun a' w'=> ∃ n',n'<m/\I n' a' w') Q) a w):(Code.loop c).wpIn F n P Q a w:=by
 refine wpIn_loop (fun a w=> ∃ n,I n a w) (fun a w=>leastOf (fun n=>I n a w)) ⟨n₀,h₀⟩ ?_;intro a w hI;refine wpIn_mono (round _ a w (leastOf_spec hI).1) ?_;intro e a' w' hq;cases e with
 |normal =>
  obtain⟨n',hlt,hI'⟩:=hq;exact show(∃ n,I n a' w')/\leastOf (fun n=>I n a' w')<leastOf (fun n=>I n a w) from⟨⟨n',hI'⟩,Nat.lt_of_le_of_lt ((leastOf_spec ⟨n',hI'⟩).2 n' hI') hlt⟩
 |exit id=>exact hq
 |goto l=>exact hq
 |ret=>exact hq
 |panic ch=>exact hq
 |outgrown=>exact hq
theorem zV(r:Option Nat){F:Fr P}: ∀ (c:Code) {ac:aC},comp P c=some ac-> ∀ {Q:qL->AS->Prop} {E:Env} {s:AS} {a:Act},aw P ac Q s->s.pin<=s.nx->Rel F (· <s.nx) E s a ->
  c.wpIn (wd r) 0 P (O5 F E s.pin Q) a E.w:=by
 intro c;induction c with
 |skip=>intro ac hc Q E s a h hp R; cases hc; exact wpIn_skip ⟨.normal,E,s,rfl,rfl,h,R,rfl,hp,Ext.refl _ _,Same.refl _ _⟩
 |region id ops dr=>intro ac hc Q E s a h hp R; exact V6 r hc h hp R
 |seq x y ihx ihy =>
  intro ac hc Q E s a h hp R;simp only[comp] at hc;split at hc
  ·rename_i x' y' h1 h2;cases hc;simp only[aw] at h;refine wpIn_seq (wpIn_mono (ihx h1 h hp R) ?_);rintro e a' w' ⟨ae,E',s',rfl,rfl,hQ,R',hpn,hle,hext,hs⟩;cases ae with
   |normal =>
    have:=ihy h2 (Q:=Q) hQ (by rw[hpn]; exact hle) R';rw[hpn] at this;exact wpIn_mono this fun e a w hh=>hh.after hext hs
   |exit id=>exact⟨.exit id,E',s',rfl,rfl,hQ,R',hpn,hle,hext,hs⟩
   |ret=>exact⟨.ret,E',s',rfl,rfl,hQ,R',hpn,hle,hext,hs⟩
  ·cases hc
 |cond c x y ihx ihy =>
  intro ac hc Q E s a h hp R;simp only[comp] at hc;split at hc
  ·rename_i c' x' y' h0 h1 h2;cases hc;simp only[aw] at h;have rc:=bY R h0;split at h
   ·rename_i t e1;rw[e1,aQ] at rc;refine wpIn_cond rc ?_;cases t with
    |true=>exact ihx h1 (h.1 rfl) hp R
    |false=>exact ihy h2 (h.2 rfl) hp R
   ·exact h.elim
  ·cases hc
 |block id b ih =>
  intro ac hc Q E s a h hp R;simp only[comp,be] at hc;obtain⟨b',h1,rfl⟩:=hc;simp only[aw] at h;refine wpIn_block (wpIn_mono (ih h1 h hp R) ?_);rintro e a' w' ⟨ae,E',s',rfl,rfl,hQ,R',hpn,hle,hext,hs⟩;cases ae with
  |normal=>exact⟨.normal,E',s',rfl,rfl,hQ,R',hpn,hle,hext,hs⟩
  |ret=>exact⟨.ret,E',s',rfl,rfl,hQ,R',hpn,hle,hext,hs⟩
  |exit j =>
   simp only[YC,Exit.inBlock];cases hj:(j==id) with
   |true =>
    simp only[hj,bE] at hQ;rw[bc (by simpa using hj)];exact⟨.normal,E',s',rfl,rfl,hQ,R',hpn,hle,hext,hs⟩
   |false =>
    simp only[hj,ap] at hQ;rw[bB (by simpa using hj)];exact⟨.exit j,E',s',rfl,rfl,hQ,R',hpn,hle,hext,hs⟩
 |loop b ih =>
  intro ac hc Q E s a h hp R;simp only[comp,be] at hc;obtain⟨b',h1,rfl⟩:=hc;simp only[aw,Cb] at h;obtain⟨I,μ,⟨s0,hw0,hI0⟩,round⟩:=h;obtain⟨E0,hE0,R0,amb,hs0,hp0,hle0⟩:=hw0.sound R hp;refine wpIn_loop_ghost (fun n a w=> ∃ E' s',E'.w=w/\I s'/\μ s'=n/\Rel F (· <s'.nx) E' s' a/\s'.pin=s.pin/\s.pin<=s'.nx/\Ext F E E'/\Same E E' (· <s.pin)) (μ s0) ?_ ?_
  ·exact⟨E0,s0,hE0,hI0,rfl,R0,hp0,by rw[<- hp0]; exact hle0,amb,by rw[<- hp0]; exact hs0⟩
  ·rintro n a w ⟨E',s',rfl,hI,rfl,R',hpn,hle,hext,hs⟩;have:=ih h1 (round s' hI) (by rw[hpn]; exact hle) R';refine wpIn_mono this ?_;rintro e a' w' ⟨ae,E'',s'',rfl,rfl,hQ,R'',YH,hle',Jt,hs'⟩;rw[hpn] at YH hle' hs';cases ae with
   |normal =>
    obtain⟨s1,hw1,hI1,hμ⟩:=hQ;obtain⟨E1,hE1,R1,amc,hs1,hp1,hle1⟩:=hw1.sound R'' (by rw[YH]; exact hle');refine⟨μ s1,hμ,E1,s1,hE1,hI1,rfl,R1,hp1.trans YH,?_,(hext.trans Jt).trans amc,?_⟩
    ·rw[<- YH,<- hp1]; exact hle1
    ·rw[hp1,YH] at hs1;exact(hs.trans hs' fun _ h=>h).trans hs1 fun _ h=>h
   |exit id=>exact⟨.exit id,E'',s'',rfl,rfl,hQ,R'',YH,hle',hext.trans Jt,hs.trans hs' fun _ h=>h⟩
   |ret=>exact⟨.ret,E'',s'',rfl,rfl,hQ,R'',YH,hle',hext.trans Jt,hs.trans hs' fun _ h=>h⟩
 |exit id=>intro ac hc Q E s a h hp R; cases hc; exact wpIn_exit ⟨.exit id,E,s,rfl,rfl,h,R,rfl,hp,Ext.refl _ _,Same.refl _ _⟩
 |ret=>intro ac hc Q E s a h hp R; cases hc; exact wpIn_ret ⟨.ret,E,s,rfl,rfl,h,R,rfl,hp,Ext.refl _ _,Same.refl _ _⟩
 |rangeFunc f ps x y=>intro ac hc; cases hc
 |scope b ih=>intro ac hc; cases hc
 |label l=>intro ac hc; cases hc
 |goto l=>intro ac hc; cases hc
 |refuse w=>intro ac hc; cases hc
theorem aek{F:Fr P}(c:Code){ac:aC}(hc:comp P c=some ac){Q:qL->AS->Prop}{E:Env}{s:AS}{a:Act}(h:aw P ac Q s)(hp:s.pin<=s.nx)(R:Rel F (· <s.nx) E s a) :
  c.wp P (O5 F E s.pin Q) a E.w:=wpIn_wide.1 (zV none c hc h hp R)
end
section
variable {P:Program}
inductive RV where
 |slot (t:Nat)
 |cell (a k:Nat)
def nO(P:Program):List ResultVar->Option (List RV)
 |[]=>some []
 | .tmp t::r=>(nO P r).map (.slot t:: ·)
 | .cell a ty::r=>match kindOf P ty,nO P r with
  |some k,some r=>some (.cell a k::r)
  |_,_=>none
def RV.val(s:AS):RV->T
 | .slot t=>s.fr.getD t T.un
 | .cell a k=>qt s (.ld k (.t a))
def RV.ok(s:AS):RV->Prop
 | .slot _=>True
 | .cell a k=>qc s (.ld k (.t a))
def GX(s:AS):List RV->Prop
 |[]=>True
 |r::rs=>r.ok s/\GX s rs
def resT(s:AS):List RV->T
 |[r]=>r.val s
 |rs=>.dD (rs.map (RV.val s))
def O6(tmps:Array Value):ResultVar->Sem Value
 | .tmp t=>pure (tmps.getD t undef)
 | .cell a t=>do loadVar t (<- asAddr (tmps.getD a undef))
theorem YI(fn:Func)(tmps:Array Value):results fn tmps=(do let vs <- fn.results.mapM (O6 tmps); pure (if h:vs.size=1 then vs[0] else .tuple vs)):=by
 unfold results
 congr 2
theorem aht{F:Fr P}{M:Nat->Prop}{E:Env}{s:AS}{a:Act}(R:Rel F M E s a): ∀ {l:List ResultVar} {rs:List RV},nO P l=some rs->GX s rs ->
  ∃ vs,(l.mapM (O6 a.tmps)).run P E.w= .ok vs E.w/\bg E (rs.map (RV.val s)) vs/\vs.length=l.length:=by
 intro l;induction l with
 |nil=>intro rs h _; cases h; exact⟨[],by simp,by simp[bg],rfl⟩
 |cons r l ih =>
  intro rs h hok;cases r with
  |tmp t =>
   simp only[nO,be] at h;obtain⟨rs',h1,rfl⟩:=h;obtain⟨vs,h2,h3,h4⟩:=ih h1 hok.2;refine⟨a.tmps.getD t undef::vs,?_,?_,by simp[h4]⟩
   ·rw[List.mapM_cons];simp only[O6,Sem.run_bind,Sem.run_pure,Result.andThen_ok,h2]
   ·rw[bl,bQ];exact⟨_,_,rfl,bY R (x:=.tmp t) rfl,h3⟩
  |cell x ty =>
   simp only[nO] at h;split at h
   ·rename_i k rs' hk h1;cases h;obtain⟨vs,h2,h3,h4⟩:=ih h1 hok.2;obtain⟨v,hrun,hv⟩:=q_ld (P:=P) R (x:=.tmp x) (x':=.t x) rfl (o:=⟨none,.load ty (.tmp x),ty, "",#[],none⟩) rfl hk hok.1;refine⟨v::vs,?_,?_,by simp[h4]⟩
    ·rw[List.mapM_cons];have hld:(do loadVar ty (<- asAddr (a.tmps.getD x undef)):Sem Value).run P E.w= .ok v E.w:=by
      have he:a.eval (.tmp x)=a.tmps.getD x undef:=rfl;simp only[execOp,Instr.loadAt,he,Sem.run_bind] at hrun;generalize a.tmps.getD x undef=u at hrun ⊢;cases u with
      |pointer ad =>
       cases ad with
       |none=>simp[Instr.sureAddr,stuck,Result.andThen] at hrun
       |some ad =>
        simp only[Instr.sureAddr,Sem.run_pure,Result.andThen_ok] at hrun;simp only[asAddr,Sem.run_bind,Sem.run_pure,Result.andThen_ok];cases hl:(loadVar ty ad).run P E.w with
        |ok v' w'=>rw[hl] at hrun; simp only[Result.andThen_ok,Result.ok.injEq,Next.value.injEq] at hrun; rw[hrun.1,hrun.2]
        |halt h w'=>rw[hl] at hrun; simp[Result.andThen] at hrun
      |_=>simp[Instr.sureAddr,stuck,Result.andThen] at hrun
     simp only[Sem.run_bind] at hld;simp only[O6,Sem.run_bind,hld,Result.andThen_ok,h2,Sem.run_pure]
    ·rw[bl,bQ];exact⟨_,_,rfl,hv,h3⟩
   ·cases h
theorem V7{F:Fr P}{M:Nat->Prop}{E:Env}{s:AS}{a:Act}(R:Rel F M E s a){fn:Func}{rs:List RV}(hc:nO P fn.results.toList=some rs)(hok:GX s rs) :
  ∃ v,(results fn a.tmps).run P E.w= .ok v E.w/\lZ E (resT s rs) v:=by
 obtain⟨vs,h1,h2,h3⟩:=aht R hc hok;have hm:(fn.results.mapM (O6 a.tmps)).run P E.w= .ok vs.toArray E.w:=by
  rw[Array.mapM_eq_mapM_toList];simp[h1]
 have hl:rs.length=vs.length:=by have:=qw h2; simpa using this.symm
 rw[YI];simp only[Sem.run_bind,hm];simp only[Result.andThen_ok,Sem.run_pure];refine⟨_,rfl,?_⟩;cases rs with
 |nil =>
  have:vs=[]:=ai (by simpa using hl.symm)
  subst this;simp only[resT];rw[dif_neg (by simp),aB rfl];simp only[aN]; exact⟨#[],rfl,by simpa using h2⟩
 |cons r rs =>
  cases rs with
  |nil =>
   simp only[bl,List.map_nil,bQ] at h2;obtain⟨v,q,rfl,hv,hq⟩:=h2;simp[bg] at hq; subst hq;simpa [resT] using hv
  |cons r' rs =>
   have hne:vs.length≠1:=by simp at hl; omega
   rw[dif_neg (by simpa using hne)];show lZ E (.dD ((r::r'::rs).map (RV.val s))) _;rw[aB rfl];simp only[aN]; exact⟨vs.toArray,rfl,by simpa using h2⟩
def V8(h:Hp)(N:Nat->Prop)(post:T->Hp->Prop)(rs:List RV)(s:AS):Prop :=
 GX s rs/\ ∃ (Z:Nat->Prop) (ρ:Nat->Nat) (t:T) (h':Hp),post t h'/\T.sub Z s.hp (t.ren ρ) (resT s rs)/\(∀ i ob,h' i=some ob-> ∃ ob',s.hp (ρ i)=some ob'/\ ¬ Z (ρ i)/\Ov Z s.hp ρ ob ob') /\
  (∀ i j,(h' i).isSome=true->(h' j).isSome=true->ρ i=ρ j->i=j)/\t.ids (fun i=>(h i).isSome=true\/N i)/\pq (fun i=>(h i).isSome=true\/N i) h' /\
  ∀ i,(h i).isSome=true->(h' i).isSome=true->ρ i=i
def Ret(h:Hp)(n:Nat)(post:T->Hp->Prop)(rs:List RV)(s:AS):Prop:=V8 h (fun i=>i=n) post rs s
def ael(h:Hp)(N:Nat->Prop)(post:T->Hp->Prop)(rs:List RV):qL->AS->Prop
 | .exit _,_=>False
 |_,s=> ∃ s1,IJ s1 s/\V8 h N post rs s1
def Done(h:Hp)(n:Nat)(post:T->Hp->Prop)(rs:List RV):qL->AS->Prop
 | .exit _,_=>False
 |_,s=> ∃ s1,IJ s1 s/\Ret h n post rs s1
def GY(F:Fr P)(M:Nat->Prop)(E:Env)(N:Nat->Prop)(post:T->Hp->Prop)(e:Ending)(w':World):Prop :=
 ∃ v t E',e= .returned v/\E'.w=w'/\post t E'.h/\lZ E' t v/\qY F E'/\Ext F E E'/\Same E E' M /\
  t.ids (fun i=>M i\/N i)/\pq (fun i=>M i\/N i) E'.h
def Fr.defs(F:Fr P)(d:List Deferred):Fr P:= {s:=F.s,dl:=d}
theorem qY.dl{F:Fr P}{E:Env}(d:List Deferred)(h:qY F E):qY (F.defs d) E:=⟨h.obs,h.out,h.sep,h.slt,h.flt,h.sf,h.gl⟩
theorem qY.YJ{F:Fr P}{E:Env}{d:List Deferred}(h:qY (F.defs d) E):qY F E:=⟨h.obs,h.out,h.sep,h.slt,h.flt,h.sf,h.gl⟩
theorem Ext.YJ{F:Fr P}{E E':Env}{d:List Deferred}(h:Ext (F.defs d) E E'):Ext F E E':=⟨h.s,h.w,h.size,h.os,h.tape,h.output,h.dr,h.y⟩
theorem V8.ends{fn:Func}{rs:List RV}{h:Hp}{N:Nat->Prop}{nx:Nat}{post:T->Hp->Prop}{F:Fr P}{M:Nat->Prop}{E E':Env}{s':AS}{a':Act}(hr:nO P fn.results.toList=some rs)(hh:pq (· <nx) h)(hm:pq M h)(hn: ∀ i,M i-> ¬ N i)
  (R':Rel F (· <s'.nx) E' s' a') (hext:Ext F E E') (hs:Same E E' (· <nx)) (hret:V8 h N post rs s'): ∃ v,(results fn a'.tmps).run P E'.w= .ok v E'.w/\GY F M E N post (.returned v) E'.w:=by
 obtain⟨hok,Z,ρ,t,h',hpost,hsub,Ue,hinj,VQ,YK,hfix⟩:=hret;obtain⟨v,hrun,hv⟩:=V7 R' hr hok;refine⟨v,hrun,v,t,(E'.shut Z).ren ρ h',rfl,rfl,hpost,?_,?_,?_,?_,T.aW (fun i hi=>?_) _ VQ,fun i ob hi=>?_⟩
 ·have hl: ∀ i,(h' i).isSome=true->((E'.shut Z).h (ρ i)).isSome=true:=fun i hi=>by
   obtain⟨ob,hob⟩:=am.1 hi;obtain⟨ob',h1,h2,_⟩:=Ue i ob hob;rw[yM h2,R'.he,h1]; rfl
  rw[<- R'.he] at hsub;have hv':=O1 R'.hk hsub hv;rcases hv' with ⟨h1,cs,h2,h3⟩|⟨h1,h2⟩
  ·exact .inl ⟨by rw[<- uQ ρ]; exact h1,cs,h2,zU hl t _ h3⟩
  ·exact .inr ⟨by rw[<- uQ ρ]; exact h1,zU hl t _ h2⟩
 ·exact R'.hk.ren (fun i ob hi=>by rw[R'.he]; exact Ue i ob hi) hinj
 ·exact⟨fun g hg=>.inl (hext.s g hg),hext.w,hext.size,hext.os,hext.tape,hext.output,hext.dr,hext.y⟩
 ·intro i hi hsome;obtain⟨ob,hob⟩:=am.1 hsome;have amd:(h i).isSome=true:=(YK i ob hob).1.resolve_right fun e=>hn i hi e
  have hρ:=hfix i amd hsome;obtain⟨oi,hoi⟩:=am.1 amd;obtain⟨ob',fF,_⟩:=Ue i ob hob;rw[hρ] at fF;have:=hs i (hh i oi hoi).1 (by rw[R'.he,fF]; rfl);refine⟨this.1,?_,?_⟩
  ·show E'.φ (ρ i)=_; rw[hρ]; exact this.2.1
  ·show E'.κ (ρ i)=_; rw[hρ]; exact this.2.2
 ·rcases hi with hi|hi
  ·obtain⟨oi,hoi⟩:=am.1 hi;exact .inl (hm i oi hoi).1
  ·exact .inr hi
 ·have hconv: ∀ i,((h i).isSome=true\/N i)->M i\/N i:=fun i hi=>by
   rcases hi with hi|hi
   ·obtain⟨oi,hoi⟩:=am.1 hi;exact .inl (hm i oi hoi).1
   ·exact .inr hi
  exact⟨hconv i (YK i ob hi).1,T.aA hconv _ (YK i ob hi).2⟩
theorem aem{E:Env}: ∀ k,bg E (List.replicate k T.un) (List.replicate k undef):=by
 intro k;induction k with
 |zero=>simp[bg]
 |succ k ih=>rw[du,du,bQ]; exact⟨_,_,rfl,by rw[aQ]; rfl,ih⟩
theorem Rel.enter{F:Fr P}{E:Env}{ts:List T}{vs:List Value}{h:Hp}{nx nt:Nat}(hdl:F.dl=[])(hk:qY F E)(he:E.h=h)(hrep:bg E ts vs)(hts:T.aO (· <nx) ts)(hh:pq (· <nx) h) :
  Rel F (· <nx) E ⟨ts++List.replicate (nt-ts.length) T.un,h,nx,nx⟩ {tmps:=vs.toArray++Array.replicate (nt-vs.toArray.size) undef,defers:=[]}:=by
 have hlen:=qw hrep;refine⟨hk,he,?_,hdl.symm,gB.2 ⟨hts,cu.2 fun t ht=>by rw[fb ht]; simp[T.ids]⟩,hh⟩;have:=Jg hrep (aem (E:=E) (nt-ts.length));simpa [hlen] using this
theorem ahu{fn:Func}{c:Code}{ac:aC}{rs:List RV}{ts:List T}{h:Hp}{N:Nat->Prop}{nx nt:Nat}{post:T->Hp->Prop}(hc:comp P c=some ac)
  (hr:nO P fn.results.toList=some rs) (hnt:fn.ntmps=nt) (hts:T.aO (· <nx) ts) (hh:pq (· <nx) h)
  (H:aw P ac (ael h N post rs) ⟨ts++List.replicate (nt-ts.length) T.un,h,nx,nx⟩) (F:Fr P) (M:Nat->Prop) (E:Env) (vs:List Value) (hdl:F.dl=[]) (hk:qY F E) (he:E.h=h) (hrep:bg E ts vs) (hm:pq M h) (hn: ∀ i,M i-> ¬ N i) :
  c.wp P (bodyPost P fn (GY F M E N post)) {tmps:=vs.toArray++Array.replicate (fn.ntmps-vs.toArray.size) undef,defers:=[]} E.w:=by
 subst hnt;refine wp_mono (aek c hc H (ba _) (Rel.enter hdl hk he hrep hts hh)) ?_;rintro e a' w' ⟨ae,E',s',rfl,rfl,hQ,R',hpn,hle,hext,hs⟩;have key:(∃ s1,IJ s1 s'/\V8 h N post rs s1)->a'.defers=[]/\ ∃ v,(results fn a'.tmps).run P E'.w= .ok v E'.w/\GY F M E N post (.returned v) E'.w:=by
  rintro⟨s1,hN,hret⟩;obtain⟨E1,hw1,R1,hx1,hs1,hp1,_⟩:=hN.sound R' (by rw[hpn]; exact hle);refine⟨R'.df.trans hdl,?_⟩;rw[<- hw1];exact hret.ends hr hh hm hn R1 (hext.trans hx1) (hs.trans hs1 (M':=(· <s1.pin)) fun i hi=>by rw[hp1,hpn]; exact hi)
 cases ae with
 |normal=>exact key hQ
 |ret=>exact key hQ
 |exit id=>exact hQ.elim
theorem GY.YJ{F:Fr P}{M:Nat->Prop}{E:Env}{N:Nat->Prop}{post:T->Hp->Prop}{d:List Deferred}{e:Ending}{w':World}:GY (F.defs d) M E N post e w'->GY F M E N post e w':=by
 rintro⟨v,t,E',r1,r2,r3,r4,r5,r6,r7⟩;exact⟨v,t,E',r1,r2,r3,r4,r5.YJ,r6.YJ,r7⟩
theorem GZ{f:FuncId}{fn:Func}{c:Code}{ac:aC}{rs:List RV}{ts:List T}{h:Hp}{N:Nat->Prop}{nx nt:Nat}{post:T->Hp->Prop}(hf:P.funcs[f]? =some fn)(hb:fn.body=some c)(hc:comp P c=some ac)
  (hr:nO P fn.results.toList=some rs) (hnt:fn.ntmps=nt) (hts:T.aO (· <nx) ts) (hh:pq (· <nx) h)
  (H:aw P ac (ael h N post rs) ⟨ts++List.replicate (nt-ts.length) T.un,h,nx,nx⟩) (F:Fr P) (M:Nat->Prop) (E:Env) (vs:List Value) (hk:qY F E) (he:E.h=h) (hrep:bg E ts vs) (hm:pq M h) (hn: ∀ i,M i-> ¬ N i) :
  Calls P f vs.toArray E.w (GY F M E N post) :=
 (calls_of_wp hf hb (ahu hc hr hnt hts hh H (F.defs []) M E vs rfl (hk.dl []) he hrep hm hn)).mono fun _ _ h=>h.YJ
theorem aP.yN{f:FuncId}{fn:Func}{c:Code}{ac:aC}{rs:List RV}{ts:List T}{h:Hp}{n nx nt:Nat}{post:T->Hp->Prop}(hf:P.funcs[f]? =some fn)(hb:fn.body=some c)(hc:comp P c=some ac)
  (hr:nO P fn.results.toList=some rs) (hcl:callable P f) (hnt:fn.ntmps=nt) (hin: ∃ t h',post t h') (hts:T.aO (· <nx) ts) (hh:pq (· <nx) h)
  (H:aw P ac (Done h n post rs) ⟨ts++List.replicate (nt-ts.length) T.un,h,nx,nx⟩):aP P f ts h n post :=
 ⟨hin,hcl,fun F M E vs hk he hrep _ hm hn=>GZ (N:=fun i=>i=n) hf hb hc hr hnt hts hh H F M E vs hk he hrep hm fun _ hi e=>hn (e▸hi)⟩
theorem jr.yN{f:FuncId}{fn:Func}{c:Code}{ac:aC}{rs:List RV}{ts:List T}{h:Hp}{n k nx nt:Nat}{post:T->Hp->Prop}(hf:P.funcs[f]? =some fn)(hb:fn.body=some c)(hc:comp P c=some ac)
  (hr:nO P fn.results.toList=some rs) (hcl:callable P f) (hnt:fn.ntmps=nt) (hin: ∃ t h',post t h') (hts:T.aO (· <nx) ts) (hh:pq (· <nx) h)
  (H:aw P ac (ael h (fun i=>n<=i/\i<=n+k) post rs) ⟨ts++List.replicate (nt-ts.length) T.un,h,nx,nx⟩):jr P f ts h n k post :=
 ⟨hin,hcl,fun F M E vs hk he hrep _ hm hn=>GZ (N:=fun i=>n<=i/\i<=n+k) hf hb hc hr hnt hts hh H F M E vs hk he hrep hm fun i hi e=>by have:=hn i hi; omega⟩
end
end Go.Ab
