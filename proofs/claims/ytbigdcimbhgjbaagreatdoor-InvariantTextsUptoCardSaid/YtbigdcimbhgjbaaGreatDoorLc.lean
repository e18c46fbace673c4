/-
 The abstract layer, part 13: a contract in a larger heap; operations change places.
-/
import Derived.TacticsIn
import Derived.OrdersIn
import Derived.Deep.LoopGhost
import Derived.Test.YtbigdcimbhgjbaaGreatDoorLb
namespace Go.Ab
section
variable {P:Program}
theorem aP.frame{f:FuncId}{ts:List T}{h h1:Hp}{n:Nat}{post:T->Prop}(H:aP P f ts h n fun t h'=>h'=h/\t.free=true/\post t)(hx:vN h h1)
  (hc: ∀ i ob,h i=some ob->T.aO (fun j=>(h1 j).isSome=true->(h j).isSome=true) ob.l):aP P f ts h1 n fun t h'=>h'=h1/\t.free=true/\post t:=by
 obtain⟨⟨t0,h0,_,hf0,hp0⟩,hcl,hcall⟩:=H
 refine⟨⟨t0,h1,rfl,hf0,hp0⟩,hcl,fun F M E vs hk he hts hid hm hn=>?_⟩
 let E0:Env:= {E with h:=h}
 let F0:Fr P:= {s:=fun g=>F g\/ ∃ i ob,h1 i=some ob/\h i=none/\rowB (E.φ i)=some g}
 have he': ∀ i ob,h1 i=some ob->E.h i=some ob:=fun i ob hi=>by rw[he]; exact hi
 have hK0: ∀ M,Keeps E E0 M:=fun M=>⟨fun _ h=>h,fun _ _=>rfl,fun i _ hi=>⟨by rw[he]; exact hx.some hi,rfl,rfl⟩,rfl⟩
 have hk0:oP F0 E0:=by
  refine⟨fun i ob hi=>?_,fun i ob g hi hg=>?_,fun i j oi oj g hij hi hj=>hk.sep i j oi oj g hij (he' _ _ (hx _ _ hi)) (he' _ _ (hx _ _ hj)),hk.slt,fun g hg=>?_,fun g hs hg=>?_,⟨fun g cs hg=>⟨.inl (hk.gl.1 g cs hg).1,(hk.gl.1 g cs hg).2⟩,hk.gl.2.of (fun _ h=>.inl h) (fun _ _=>rfl) rfl⟩⟩
  ·obtain⟨k1,k2,k3⟩:=hk.obs i ob (he' _ _ (hx _ _ hi))
   exact⟨k1.keep (hK0 M) (hm i ob (hx _ _ hi)).2 (fun _ _=>rfl),k2,k3⟩
  ·obtain⟨k1,k2⟩:=hk.out i ob g (he' _ _ (hx _ _ hi)) hg
   refine⟨k1,fun hF=>?_⟩
   rcases hF with hF|⟨i',ob',h1',h2',h3'⟩
   ·exact k2 hF
   ·refine hk.sep i i' ob ob' g ?_ (he' _ _ (hx _ _ hi)) (he' _ _ h1') hg h3'
    rintro rfl
    have hi':h i=some ob:=hi
    rw[h2'] at hi'; cases hi'
  ·rcases hg with hg|⟨i',ob',h1',_,h3'⟩
   ·exact hk.flt g hg
   ·exact(hk.obs i' ob' (he' _ _ h1')).1.lt h3'
  ·rcases hg with hg|⟨i',ob',h1',_,h3'⟩
   ·exact hk.sf g hs hg
   ·exact(hk.out i' ob' g (he' _ _ h1') h3').1 hs
 refine(hcall F0 M E0 vs hk0 rfl (iq _ M (hK0 M) hid _ hts) hid (fun i ob hi=>hm i ob (hx _ _ hi)) hn).mono ?_
 rintro e w' ⟨v,t,E0',rfl,rfl,⟨hh,hfree,hpost⟩,hv,hk0',hext,hS,_,_⟩
 let E':Env:= {E0' with h:=h1,φ:=fun i=>if(h i).isSome=true then E0'.φ i else E.φ i,κ:=fun i=>if(h i).isSome=true then E0'.κ i else E.κ i}
 have hsome: ∀ i ob,h i=some ob->(h i).isSome=true:=fun i ob hi=>by rw[hi]; rfl
 have hnone: ∀ i,h i=none-> ¬ ((h i).isSome=true):=fun i hi=>by rw[hi]; simp
 have hS0: ∀ i,M i->(h i).isSome=true->E0'.φ i=E.φ i/\E0'.κ i=E.κ i:=fun i hi hs=>(hS i hi (by rw[hh]; exact hs)).2
 have rW:Same E E' M:=by
  intro i hi hs
  refine⟨by rw[he]; exact hs,?_,?_⟩
  ·show(if(h i).isSome=true then E0'.φ i else E.φ i)=_
   split
   ·rename_i hq; exact(hS0 i hi hq).1
   ·rfl
  ·show(if(h i).isSome=true then E0'.κ i else E.κ i)=_
   split
   ·rename_i hq; exact(hS0 i hi hq).2
   ·rfl
 have uF:Ext F E E':=⟨hext.s,fun g hg=>hext.w g (hg.imp id .inl),hext.size,hext.os,hext.tape,hext.output,hext.y⟩
 have hKE:Keeps E E' M:=.of uF rW
 have hKN:Keeps E0' E' (fun j=>(h1 j).isSome=true->(h j).isSome=true):=by
  refine⟨fun _ h=>h,fun _ _=>rfl,fun i hi hs=>?_,rfl⟩
  have hq:=hi hs
  exact⟨by rw[hh]; exact hq,by show(if(h i).isSome=true then E0'.φ i else E.φ i)=_; rw[if_pos hq],by show(if(h i).isSome=true then E0'.κ i else E.κ i)=_; rw[if_pos hq]⟩
 have Qy: ∀ i,(h i).isSome=true->E'.φ i=E0'.φ i/\E'.κ i=E0'.κ i:=fun i hq =>
  ⟨by show(if(h i).isSome=true then E0'.φ i else E.φ i)=_; rw[if_pos hq],by show(if(h i).isSome=true then E0'.κ i else E.κ i)=_; rw[if_pos hq]⟩
 have nR: ∀ i,h i=none->E'.φ i=E.φ i/\E'.κ i=E.κ i:=fun i hq =>
  ⟨by show(if(h i).isSome=true then E0'.φ i else E.φ i)=_; rw[if_neg (hnone i hq)],by show(if(h i).isSome=true then E0'.κ i else E.κ i)=_; rw[if_neg (hnone i hq)]⟩
 have hcase: ∀ i ob,h1 i=some ob->h i=some ob\/h i=none:=by
  intro i ob hi
  cases hq:h i with
  |none=>exact .inr rfl
  |some o=>have:=hx i o hq; rw[hi] at this; cases this; exact .inl rfl
 have hE0: ∀ i ob,h i=some ob->E0'.h i=some ob:=fun i ob hi=>by rw[hh]; exact hi
 have Sl: ∀ i ob g,h1 i=some ob->h i=none->rowB (E.φ i)=some g->F0 g:=fun i ob g h1 h2 h3=>.inr ⟨i,ob,h1,h2,h3⟩
 have hk':oP F E':=by
  refine⟨fun i ob hi=>?_,fun i ob g hi hg=>?_,fun i j oi oj g hij hi hj hgi hgj=>?_,hk0'.slt,fun g hg=>hk0'.flt g (.inl hg),fun g hs hg=>hk0'.sf g hs (.inl hg),uF.gl hk⟩
  ·rcases hcase i ob hi with hq|hq
   ·rw[(Qy i (hsome i ob hq)).1,(Qy i (hsome i ob hq)).2]
    obtain⟨k1,k2,k3⟩:=hk0'.obs i ob (hE0 i ob hq)
    exact⟨k1.keep hKN (hc i ob hq) (fun _ _=>rfl),k2,k3⟩
   ·rw[(nR i hq).1,(nR i hq).2]
    obtain⟨k1,k2,k3⟩:=hk.obs i ob (he' i ob hi)
    exact⟨k1.keep hKE (hm i ob hi).2 (fun g hg=>hext.w g (.inr (Sl i ob g hi hq hg))),k2,k3⟩
  ·rcases hcase i ob hi with hq|hq
   ·rw[(Qy i (hsome i ob hq)).1] at hg
    obtain⟨k1,k2⟩:=hk0'.out i ob g (hE0 i ob hq) hg
    exact⟨k1,fun h=>k2 (.inl h)⟩
   ·rw[(nR i hq).1] at hg
    exact⟨fun hs=>hk0'.sf g hs (Sl i ob g hi hq hg),(hk.out i ob g (he' i ob hi) hg).2⟩
  ·rcases hcase i oi hi with hq|hq<;>rcases hcase j oj hj with hr|hr
   ·rw[(Qy i (hsome i oi hq)).1] at hgi; rw[(Qy j (hsome j oj hr)).1] at hgj
    exact hk0'.sep i j oi oj g hij (hE0 i oi hq) (hE0 j oj hr) hgi hgj
   ·rw[(Qy i (hsome i oi hq)).1] at hgi; rw[(nR j hr).1] at hgj
    exact(hk0'.out i oi g (hE0 i oi hq) hgi).2 (Sl j oj g hj hr hgj)
   ·rw[(nR i hq).1] at hgi; rw[(Qy j (hsome j oj hr)).1] at hgj
    exact(hk0'.out j oj g (hE0 j oj hr) hgj).2 (Sl i oi g hi hq hgi)
   ·rw[(nR i hq).1] at hgi; rw[(nR j hr).1] at hgj
    exact hk.sep i j oi oj g hij (he' i oi hi) (he' j oj hj) hgi hgj
 refine⟨v,t,E',rfl,rfl,⟨rfl,hfree,hpost⟩,Eo hKN.no (fZ hfree) hv,hk',uF,rW,T.bG (fun _ hf=>hf.elim) _ (fZ hfree),fun i ob hi=>?_⟩
 exact⟨.inl (hm i ob hi).1,T.ay (fun _ h=>.inl h) _ (hm i ob hi).2⟩
theorem QA(l:List T):T.aO (fun _=>True) l:=bQ.2 fun t _=>kV t
def FM:mO->Bool
 | .box .. =>true
 | .al .. =>true
 | .make .. =>true
 | .Um .. =>true
 | .FI .. =>true
 |_=>false
def nC:mO->Bool
 | .call .. =>true
 | .jD .. =>true
 |_=>false
theorem bF{dr:Bool}{n:Nat}{d:Option Nat}{op:mO}(hq:bH op=true){K:AS->Prop}{s:AS}:lu P dr n d op K s↔qc s op/\K (s.put d (qt s op)):=by
 cases op<;>first|(simp[bH] at hq; done)|exact Iff.rfl
theorem zn{dr:Bool}{n:Nat}{d:Option Nat}{op:mO}(hc:nC op=true){K:AS->Prop}{s:AS} :
  lu P dr n d op K s↔ ∃ f ts,(∀ s':AS,(∀ x∈op.xs,s.ev x=s'.ev x)-> ∀ K':AS->Prop,lU P dr n d f ts K' s'->lu P dr n d op K' s')/\lU P dr n d f ts K s:=by
 cases op with
 |call f xs =>
  constructor
  ·intro h
   refine⟨f,xs.map s.ev,fun s' hx K' h'=>?_,h⟩
   simp only[lu]
   have e:xs.map s'.ev=xs.map s.ev:=List.map_congr_left fun x hx'=>(hx x hx').symm
   rw[e]; exact h'
  ·rintro⟨f',ts,h1,h2⟩; exact h1 s (fun _ _=>rfl) K h2
 |jD x xs =>
  constructor
  ·intro h
   simp only[lu] at h
   split at h
   ·rename_i f cap e1
    cases hb:Nat.blt f 4096 with
    |true =>
     rw[hb] at h
     refine⟨f,xs.map s.ev++cap,fun s' hx K' h'=>?_,h⟩
     simp only[mO.xs,List.mem_cons,forall_eq_or_imp] at hx
     simp only[lu]
     have e:xs.map s'.ev=xs.map s.ev:=List.map_congr_left fun x hx'=>(hx.2 x hx').symm
     rw[<- hx.1,e1,e]; simp only[hb,cond_true]; exact h'
    |false =>
     rw[hb] at h
     refine⟨f % 4096,.agg cap::xs.map s.ev,fun s' hx K' h'=>?_,h.2⟩
     simp only[mO.xs,List.mem_cons,forall_eq_or_imp] at hx
     simp only[lu]
     have e:xs.map s'.ev=xs.map s.ev:=List.map_congr_left fun x hx'=>(hx.2 x hx').symm
     rw[<- hx.1,e1,e]; simp only[hb,cond_false]; exact⟨h.1,h'⟩
   ·exact h.elim
  ·rintro⟨f',ts,h1,h2⟩; exact h1 s (fun _ _=>rfl) K h2
 |_=>simp[nC] at hc
def nK(s:AS):mO->Ob
 | .box ty k x=>⟨ty,k,[s.ev x]⟩
 | .al ty k z=>⟨ty,k,[z]⟩
 | .make ty k _ z x _=>⟨ty,k,List.replicate (match s.ev x with| .lit (.int _ a)=>a.toNat|_=>0) z⟩
 | .Um ty=>⟨ty,eU,[]⟩
 | .FI ty k z m ps=>⟨ty,k,qg (List.replicate m z) (ps.map fun p=>(p.1,s.ev p.2))⟩
 |_=>⟨0,0,[]⟩
def Dp(n:Nat):mO->T
 | .make .. =>.own n
 | .Um .. =>.own n
 | .FI .. =>.own n
 |_=>.ptr n 0 0
theorem zo{s s':AS}{op:mO}(h: ∀ x∈op.xs,s.ev x=s'.ev x):nK s op=nK s' op:=by
 cases op<;>simp only[nK]
 ·rename_i ty k x
  rw[h x (by simp[mO.xs])]
 ·rename_i ty k b z x y
  rw[h x (by simp[mO.xs])]
 ·rename_i ty k z m ps
  have e: ∀ p∈ps,s.ev p.2=s'.ev p.2:=fun p hp=>h _ (List.mem_map.2 ⟨p,hp,rfl⟩)
  rw[List.map_congr_left fun p hp=>by rw[e p hp]]
theorem BG{dr:Bool}{n:Nat}{d:Option Nat}{op:mO}(hc:FM op=true){K:AS->Prop}{s:AS} :
  lu P dr n d op K s↔(∀ s':AS,(∀ x∈op.xs,s.ev x=s'.ev x)->vN s.hp s'.hp-> ∀ K':AS->Prop,K' {(s'.put d (Dp n op)) with hp:=upd s'.hp n (some (nK s op))}->lu P dr n d op K' s') /\
   K {(s.put d (Dp n op)) with hp:=upd s.hp n (some (nK s op))}:=by
 cases op with
 |box ty k x =>
  constructor
  ·rintro⟨h1,h2⟩
   refine⟨fun s' hx hh K' h'=>?_,h2⟩
   have e:=hx x (by simp[mO.xs])
   simp only[nK] at h'
   rw[e] at h1 h'
   simp only[Bool.and_eq_true] at h1
   refine⟨?_,h'⟩
   simp only[Bool.and_eq_true]
   exact⟨⟨h1.1.1,Ik hh h1.1.2⟩,h1.2⟩
  ·rintro⟨h1,h2⟩; exact h1 s (fun _ _=>rfl) (fun _ _ h=>h) K h2
 |al ty k z =>
  constructor
  ·rintro⟨h1,h2⟩
   refine⟨fun s' hx hh K' h'=>?_,h2⟩
   simp only[Bool.and_eq_true] at h1
   refine⟨?_,h'⟩
   simp only[Bool.and_eq_true]
   exact⟨⟨⟨h1.1.1.1,Ik hh h1.1.1.2⟩,h1.1.2⟩,h1.2⟩
  ·rintro⟨h1,h2⟩; exact h1 s (fun _ _=>rfl) (fun _ _ h=>h) K h2
 |make ty k bytes z x y =>
  constructor
  ·intro h
   simp only[lu] at h
   split at h
   ·rename_i k1 a k2 b e1 e2
    obtain⟨h1,h2,h3⟩:=h
    simp only[nK,e1,Dp]
    refine⟨fun s' hx hh K' h'=>?_,h3⟩
    simp only[mO.xs,List.mem_cons,List.not_mem_nil,or_false,forall_eq_or_imp,forall_eq] at hx
    simp only[lu,<- hx.1,<- hx.2,e1,e2]
    simp only[Bool.and_eq_true] at h1 ⊢
    exact⟨⟨⟨⟨h1.1.1.1,Ik hh h1.1.1.2⟩,h1.1.2⟩,h1.2⟩,h2,h'⟩
   ·exact h.elim
  ·rintro⟨h1,h2⟩; exact h1 s (fun _ _=>rfl) (fun _ _ h=>h) K h2
 |Um ty =>
  constructor
  ·intro h; exact⟨fun s' _ _ K' h'=>h',h⟩
  ·rintro⟨h1,h2⟩; exact h1 s (fun _ _=>rfl) (fun _ _ h=>h) K h2
 |FI ty k z m ps =>
  constructor
  ·rintro⟨h1,h2⟩
   refine⟨fun s' hx hh K' h'=>?_,h2⟩
   have e: ∀ p∈ps,s.ev p.2=s'.ev p.2:=fun p hp=>hx _ (List.mem_map.2 ⟨p,hp,rfl⟩)
   have e1:(ps.map fun p=>(p.1,s.ev p.2))=ps.map fun p=>(p.1,s'.ev p.2):=List.map_congr_left fun p hp=>by rw[e p hp]
   have e2:(ps.map fun p=>s.ev p.2)=ps.map fun p=>s'.ev p.2:=List.map_congr_left fun p hp=>e p hp
   simp only[nK] at h'
   rw[e1,e2] at h1
   rw[e1] at h'
   simp only[Bool.and_eq_true] at h1
   refine⟨?_,h'⟩
   simp only[Bool.and_eq_true]
   obtain⟨⟨⟨⟨⟨g1,g2⟩,g3⟩,g4⟩,g5⟩,g6⟩:=h1
   exact⟨⟨⟨⟨⟨g1,g2⟩,g3⟩,BD hh.n (QA _) g4⟩,g5⟩,g6⟩
  ·rintro⟨h1,h2⟩; exact h1 s (fun _ _=>rfl) (fun _ _ h=>h) K h2
 |_=>simp[FM] at hc
theorem oN{s:AS}{d:Option Nat}{t:T}{h:Hp}(e:h=s.hp):({(s.put d t) with hp:=h}:AS)=s.put d t:=by
 subst e; cases d<;>rfl
theorem LG{h:Hp}{n:Nat}{ob:Ob}(hn:h n=none):vN h (upd h n (some ob)):=by
 intro o oo ho
 have:o≠n:=by rintro rfl; rw[hn] at ho; cases ho
 simp[upd,this,ho]
def Dq(n:Nat)(s:AS)(op:mO)(hp':Hp):Prop :=
 match op with
 | .st _ x _=> ∀ q,(∀ i j off,s.ev x= .ptr i j off->q≠i)->hp' q=s.hp q
 | .app _ _ _ x _=> ∀ q,q≠n->(∀ i,s.ev x= .own i->q≠i)->hp' q=s.hp q
 | .NQ x _ _=> ∀ q,(∀ i,s.ev x= .own i->q≠i)->hp' q=s.hp q
 | .Qk _ _ x=> ∀ q,(∀ i lo hi,s.ev x= .ru i lo hi->q≠i)->hp' q=s.hp q
 |op=>if FM op then ∀ q,q≠n->hp' q=s.hp q else hp'=s.hp
def Behind(dr:Bool)(n:Nat)(s:AS)(d:Option Nat)(op:mO)(s':AS):Prop :=
 ∃ hp',((nC op=true/\dr=false)\/Dq n s op hp')/\(s'= {s with hp:=hp'}\/ ∃ u,s'= {(s.put d u) with hp:=hp'})
theorem Behind.nx{dr:Bool}{n:Nat}{s:AS}{d:Option Nat}{op:mO}{s':AS}(h:Behind dr n s d op s'):s'.nx=s.nx:=by
 obtain⟨hp',_,rfl|⟨u,rfl⟩⟩:=h
 ·rfl
 ·exact dV _ _ _
theorem Behind.ev{dr:Bool}{n:Nat}{s:AS}{d:Option Nat}{op:mO}{s':AS}(h:Behind dr n s d op s'){x:X}(hx: ∀ u,s.ev x=(s.put d u).ev x):s.ev x=s'.ev x:=by
 obtain⟨hp',_,rfl|⟨u,rfl⟩⟩:=h
 ·cases x<;>rfl
 ·rw[hx u]; cases x<;>rfl
theorem Behind.gv{dr:Bool}{n:Nat}{s:AS}{d:Option Nat}{op:mO}{s':AS}(h:Behind dr n s d op s'){g:Option (Nat×Bool)}(hx: ∀ u,gv g (s.put d u)=gv g s):gv g s'=gv g s:=by
 obtain⟨hp',_,rfl|⟨u,rfl⟩⟩:=h
 ·rfl
 ·rw[oz,hx]
theorem Behind.obj{dr:Bool}{n:Nat}{s:AS}{d:Option Nat}{op:mO}{s':AS}(h:Behind dr n s d op s'){m:Nat}(hx: ∀ u,(s.put d u).obj m=s.obj m):s'.obj m=s.obj m:=by
 obtain⟨hp',_,rfl|⟨u,rfl⟩⟩:=h
 ·rfl
 ·exact hx u
theorem Behind.heap{dr:Bool}{n:Nat}{s:AS}{d:Option Nat}{op:mO}{s':AS}(h:Behind dr n s d op s'):(nC op=true/\dr=false)\/Dq n s op s'.hp:=by
 obtain⟨hp',h1,rfl|⟨u,rfl⟩⟩:=h<;>exact h1
theorem Sm{n:Nat}{s:AS}{op:mO}(h:bH op=true\/nC op=true):Dq n s op s.hp:=by
 cases op<;>simp only[Dq,FM,if_true,Bool.false_eq_true,if_false]<;>first|trivial|exact fun _ _=>rfl|exact fun _ _ _=>rfl|(simp[bH,nC] at h)
theorem Ac{op:mO}{dr:Bool}(hdr:nC op=true\/dr=true){n:Nat}{d e:Option Nat}{t:T}{K:AS->Prop}{s:AS}(hx: ∀ x∈op.xs,s.ev x=(s.put e t).ev x)(hde: ∀ z,e=some z->d≠some z)(h:lu P dr n d op K (s.put e t)) :
  lu P dr n d op (fun s'=>Behind dr n s d op s'/\K (s'.put e t)) s:=by
 have hpp:(s.put e t).hp=s.hp:=ny _ _ _
 have pc: ∀ u,(s.put e t).put d u=(s.put d u).put e t:=fun u=>put_comm hde
 have pch: ∀ u (h':Hp),({((s.put e t).put d u) with hp:=h'}:AS)=({(s.put d u) with hp:=h'}:AS).put e t:=fun u h'=>by
  rw[pc]; exact bT
 by_cases hq:bH op=true
 ·rw[bF hq] at h ⊢
  obtain⟨q1,q2⟩:=AX (s:=s.put e t) (s':=s) hq (fun x hx'=>(hx x hx').symm) (by rw[hpp]; exact fun _ _ h=>h) h.1
  refine⟨q1,⟨s.hp,.inr (Sm (.inl hq)),.inr ⟨_,(oN rfl).symm⟩⟩,?_⟩
  rw[<- pc,q2]; exact h.2
 ·by_cases hc:nC op=true
  ·rw[zn hc] at h
   obtain⟨f,ts,h1,h2⟩:=h
   refine h1 s (fun x hx'=>(hx x hx').symm) _ ?_
   unfold lU at h2 ⊢
   rw[hpp] at h2
   refine h2.mono fun u h' ⟨p1,p2⟩=>⟨p1,⟨h',?_,.inr ⟨u,rfl⟩⟩,?_⟩
   ·cases hdv:dr with
    |false=>exact .inl ⟨hc,rfl⟩
    |true=>rw[(p1 hdv).1]; exact .inr (Sm (.inr hc))
   ·rw[<- pch]; exact p2
  ·by_cases ha:FM op=true
   ·rw[BG ha] at h
    obtain⟨h1,h2⟩:=h
    rw[<- zo hx] at h1 h2
    refine h1 s (fun x hx'=>(hx x hx').symm) (by rw[hpp]; exact fun _ _ h=>h) _ ⟨⟨upd s.hp n _,.inr ?_,.inr ⟨_,rfl⟩⟩,?_⟩
    ·cases op<;>simp only[Dq,FM,if_true]<;>first|(simp[FM] at ha; done)|(intro q hq'; simp[upd,hq']; done)
    ·rw[hpp,pch] at h2; exact h2
   ·cases op with
    |st k x v =>
     simp only[mO.xs,List.mem_cons,List.not_mem_nil,or_false,forall_eq_or_imp,forall_eq] at hx
     simp only[lu] at h ⊢
     rw[<- hx.1,<- hx.2,hpp] at h
     split at h
     ·rename_i i j off e1
      split at h
      ·obtain⟨h1,h2,h3,h4⟩:=h
       refine⟨h1,h2,h3,⟨_,.inr ?_,.inl rfl⟩,?_⟩
       ·simp only[Dq]
        intro q hq'
        have:=hq' i j off e1
        simp[upd,this]
       ·rw[bT] at h4; exact h4
      ·exact h.elim
     ·exact h.elim
    |app ty k bytes x y =>
     simp only[mO.xs,List.mem_cons,List.not_mem_nil,or_false,forall_eq_or_imp,forall_eq] at hx
     simp only[lu] at h ⊢
     rw[<- hx.1,<- hx.2,hpp] at h
     split at h
     ·split at h
      ·rename_i e1
       obtain⟨h1,h2,h3,h4,h5⟩:=h
       refine⟨h1,.inl (h2.resolve_right fun q=>by rcases hdr with e|e<;>first|(cases e; done)|(rw[e] at q; cases q.1)),h3,h4,⟨_,.inr ?_,.inr ⟨_,rfl⟩⟩,?_⟩
       ·simp only[Dq]; intro q hq' _; simp[upd,hq']
       ·rw[<- pch]; exact h5
      ·rename_i o e1
       split at h
       ·obtain⟨h1,h2,h3,h4⟩:=h
        refine⟨h1,h2,h3,⟨_,.inr ?_,.inr ⟨_,rfl⟩⟩,?_⟩
        ·simp only[Dq]; intro q hq' ho; simp[upd,hq',ho o e1]
        ·rw[<- pch]; exact h4
       ·exact h.elim
      ·exact h.elim
     ·exact h.elim
    |NQ x i v =>
     simp only[mO.xs,List.mem_cons,List.not_mem_nil,or_false,forall_eq_or_imp,forall_eq] at hx
     simp only[lu] at h ⊢
     rw[<- hx.1,<- hx.2.1,<- hx.2.2,hpp] at h
     split at h
     ·rename_i o m e1 e2
      split at h
      ·obtain⟨h1,h2,h3⟩:=h
       refine⟨h1,h2,⟨_,.inr ?_,.inl rfl⟩,?_⟩
       ·simp only[Dq]
        intro q hq'
        have:=hq' o e1
        simp[upd,this]
       ·rw[bT] at h3; exact h3
      ·exact h.elim
     ·exact h.elim
    |bot=>exact h.elim
    |Qk k z x =>
     simp only[mO.xs,List.mem_cons,List.not_mem_nil,or_false,forall_eq] at hx
     simp only[lu] at h ⊢
     rw[<- hx,hpp] at h
     split at h
     ·rename_i i lo hi e1
      split at h
      ·obtain⟨h1,h2,h3⟩:=h
       refine⟨h1,h2,⟨_,.inr ?_,.inr ⟨_,rfl⟩⟩,?_⟩
       ·simp only[Dq]
        intro q hq'
        have:=hq' i lo hi e1
        simp[upd,this]
       ·rw[<- pch]; exact h3
      ·exact h.elim
     ·exact h.elim
    |y9 x =>
     simp only[mO.xs,List.mem_cons,List.not_mem_nil,or_false,forall_eq] at hx
     simp only[lu] at h ⊢
     rw[<- hx,hpp] at h
     have key: ∀ b,K ((s.put e t).put d (.lit (.bool b)))->(fun s'=>Behind dr n s d (.y9 x) s'/\K (s'.put e t)) (s.put d (.lit (.bool b))):=fun b hb =>
      ⟨⟨s.hp,.inr rfl,.inr ⟨_,(oN rfl).symm⟩⟩,by rw[<- pc]; exact hb⟩
     split at h
     ·exact⟨fun hl=>key _ (h.1 hl),key _ h.2⟩
     ·split at h
      ·exact⟨fun hl=>key _ (h.1 hl),key _ h.2.1,h.2.2⟩
      ·exact h.elim
     ·exact h.elim
    |_=>first|exact absurd rfl hq|exact absurd rfl hc|exact absurd rfl ha
def qOk(j i:aN):Bool :=
 vC j.op||match i.op with
 | .st _ x _=>(j.fl&&i.fl)||(match x with| .t m=>Nat.blt m 1000000&&j.ne.contains m| .c _=>false)
 | .app .. =>(j.fl&&i.fl)||(j.ne.contains 1000000&&i.ne.contains 1000001)
 | .NQ .. =>false
 | .Qk .. =>false
 | .call .. => !i.fl
 | .jD .. => !i.fl
 |_=>true
def xB:mO->Bool
 | .al .. =>true
 | .make .. =>true
 |_=>false
theorem Dt{op:mO}(h:xB op=true):FM op=true:=by cases op<;>first|rfl|(simp[xB] at h)
def Du(j i:aN):Bool :=
 vF j i&&((bH j.op&&qOk j i)||(nC j.op&&bH i.op&&(!j.fl||vC i.op))||(nC j.op&&FM i.op&& !j.fl) ||
  (xB j.op&&xB i.op))
def BH(j i:aN):Bool :=
 bif j.ar then vF j i&& !i.ad&& !i.ar&&((bH i.op&&vC i.op)||xB i.op) else bif i.ar then vF j i&&bH j.op&& !j.ad else
 bif j.ad then vF j i&&nC j.op&&bH i.op&&vC i.op&& !i.ad else bif i.ad then vF j i&&bH j.op&&nC i.op else Du j i
theorem UA{j i:aN}{ni:Nat}{s s':AS}{d:Option Nat}(hok:qOk j i=true)(hnf:vC j.op=false)(hq:bH j.op=true)(hni:s.nx<=ni)(hfresh:bH i.op=true\/s.hp ni=none)(fj:iV j s)(fi:iV i s)(hB:Behind (i.dr true) ni s d i.op s') :
  ∃ N:Nat->Prop,(∀ x∈j.op.xs,(s.ev x).ids N)/\LD N s.hp s'.hp:=by
 have hh:Dq ni s i.op s'.hp:=by
  rcases hB.heap with ⟨h1,h2⟩|h
  ·exfalso
   simp only[qOk,hnf,Bool.false_or] at hok
   unfold aN.dr at h2
   cases hop:i.op<;>rw[hop] at h1 hok h2<;>first|(simp[nC] at h1; done)|(simp only at hok h2; rw[hok] at h2; cases h2)
  ·exact h
 clear hB
 have hlow:j.fl=true-> ∀ x∈j.op.xs,(s.ev x).ids (· <s.nx):=by
  intro hf x hx
  have h1:=fj.1 hf
  have h2:(j.op.xs.all fun x=>T.lt s.nx (s.ev x))=true:=by
   cases hop:j.op<;>rw[hop] at h1 hq<;>first|exact h1|(simp[bH] at hq)
  exact EC (List.all_eq_true.1 h2 x hx)
 cases hop:i.op with
 |st k x v =>
  rw[hop] at hh
  simp only[Dq] at hh
  simp only[qOk,hnf,Bool.false_or,hop,Bool.or_eq_true,Bool.and_eq_true] at hok
  rcases hok with ⟨h1,h2⟩|h1
  ·have hfi:=fi.1 h2
   simp only[hop] at hfi
   refine⟨(· <s.nx),hlow h1,fun o ob ho hob=>?_⟩
   rw[hh o ?_]; exact hob
   intro i' j' off e1 heq
   rw[e1] at hfi
   simp only[T.newer,Nat.ble_eq] at hfi
   omega
  ·cases x with
   |c v=>cases h1
   |t m =>
    simp only[Bool.and_eq_true,List.contains_iff_mem] at h1
    obtain⟨b,hb,Dl⟩:=Uz fj.2 m h1.2 h1.1
    refine⟨(· ≠b),Dl,fun o ob ho hob=>?_⟩
    rw[hh o ?_]; exact hob
    intro i' j' off e1 heq
    subst heq
    have:s.obj m=some o:=by
     unfold AS.obj
     have e2:s.fr.getD m .any= .ptr o j' off:=by
      have:s.fr.getD m T.un= .ptr o j' off:=e1
      rw[List.getD_eq_getElem?_getD] at this ⊢
      cases hg:s.fr[m]? with
      |none=>rw[hg] at this; simp at this
      |some u=>rw[hg] at this; simpa using this
     rw[e2]
    rw[this] at hb; cases hb; exact ho rfl
 |app ty k bytes x y =>
  rw[hop] at hh
  simp only[Dq] at hh
  simp only[qOk,hnf,Bool.false_or,hop,Bool.or_eq_true,Bool.and_eq_true,List.contains_iff_mem] at hok
  rcases hok with hok|⟨k1,k2⟩
  ·have hfi:=fi.1 hok.2
   simp only[hop] at hfi
   refine⟨(· <s.nx),hlow hok.1,fun o ob ho hob=>?_⟩
   rw[hh o (by omega) ?_]; exact hob
   intro i' e1 heq
   rw[e1] at hfi
   simp only[T.newer,Nat.ble_eq] at hfi
   omega
  ·have hfi:=fi.2
   rw[hop] at hfi
   have hfi:=Xi (x:=x) (r:=[y]) hfi k2
   refine⟨(· <10000),Xh fj.2 k1,fun o ob ho hob=>?_⟩
   rw[hh o ?_ ?_]; exact hob
   ·rintro rfl
    rcases hfresh with hfr|hfr
    ·rw[hop] at hfr; simp[bH] at hfr
    ·rw[hfr] at hob; cases hob
   ·intro i' e1 heq
    rw[e1] at hfi
    simp only[T.newer,Nat.ble_eq] at hfi
    omega
 |NQ x i' v =>
  simp only[qOk,hnf,Bool.false_or,hop] at hok
  cases hok
 |Qk k z x =>
  simp only[qOk,hnf,Bool.false_or,hop] at hok
  cases hok
 |_ =>
  rw[hop] at hh
  simp only[Dq,FM,if_true,Bool.false_eq_true,if_false] at hh
  refine⟨fun _=>True,fun _ _=>kV _,fun o ob _ hob=>?_⟩
  first
   |(rw[hh o (by
     rintro rfl
     rcases hfresh with hfr|hfr
     ·rw[hop] at hfr; simp[bH] at hfr
     ·rw[hfr] at hob; cases hob)]; exact hob)
   |(rw[hh]; exact hob)
theorem Sr{h h':Hp}{z:T}(hf:z.free=true)(hs:z.jS h=true):z.jS h'=true:=by
 cases z<;>simp_all[T.free,T.jS,T.xg]
theorem fM(s:AS)(d:Option Nat)(t:T):(s.put d t).pin=s.pin:=by cases d<;>rfl
theorem jr{dr:Bool}{n:Nat}{d:Option Nat}{op:mO}{K K':AS->Prop}{s:AS}(hK: ∀ s',s'.nx=s.nx->s'.pin=s.pin->K s'->K' s')(h:lu P dr n d op K s):lu P dr n d op K' s:=by
 by_cases hq:bH op=true
 ·rw[bF hq] at h ⊢; exact⟨h.1,hK _ (dV _ _ _) (fM _ _ _) h.2⟩
 ·cases op with
  |box ty k x=>exact⟨h.1,hK _ (dV _ _ _) (fM _ _ _) h.2⟩
  |al ty k z=>exact⟨h.1,hK _ (dV _ _ _) (fM _ _ _) h.2⟩
  |make ty k bytes z x y =>
   simp only[lu] at h ⊢
   split at h
   ·exact⟨h.1,h.2.1,hK _ (dV _ _ _) (fM _ _ _) h.2.2⟩
   ·exact h.elim
  |st k x v =>
   simp only[lu] at h ⊢
   split at h
   ·split at h
    ·exact⟨h.1,h.2.1,h.2.2.1,hK _ rfl rfl h.2.2.2⟩
    ·exact h.elim
   ·exact h.elim
  |app ty k bytes x y =>
   simp only[lu] at h ⊢
   split at h
   ·split at h
    ·exact⟨h.1,h.2.1.imp id (fun q=>⟨q.1,hK _ (dV _ _ _) (fM _ _ _) q.2⟩),h.2.2.1,h.2.2.2.1,hK _ (dV _ _ _) (fM _ _ _) h.2.2.2.2⟩
    ·split at h
     ·exact⟨h.1,h.2.1,h.2.2.1,hK _ (dV _ _ _) (fM _ _ _) h.2.2.2⟩
     ·exact h.elim
    ·exact h.elim
   ·exact h.elim
  |Um ty=>exact hK _ (dV _ _ _) (fM _ _ _) h
  |NQ x i v =>
   simp only[lu] at h ⊢
   split at h
   ·split at h
    ·exact⟨h.1,h.2.1,hK _ rfl rfl h.2.2⟩
    ·exact h.elim
   ·exact h.elim
  |bot=>exact h.elim
  |Qk k z x =>
   simp only[lu] at h ⊢
   split at h
   ·split at h
    ·exact⟨h.1,h.2.1,hK _ (dV _ _ _) (fM _ _ _) h.2.2⟩
    ·exact h.elim
   ·exact h.elim
  |y9 x =>
   simp only[lu] at h ⊢
   split at h
   ·exact⟨fun hl=>hK _ (dV _ _ _) (fM _ _ _) (h.1 hl),hK _ (dV _ _ _) (fM _ _ _) h.2⟩
   ·split at h
    ·exact⟨fun hl=>hK _ (dV _ _ _) (fM _ _ _) (h.1 hl),hK _ (dV _ _ _) (fM _ _ _) h.2.1,h.2.2⟩
    ·exact h.elim
   ·exact h.elim
  |call f xs=>exact aP.mono h fun t h' ⟨p1,p2⟩=>⟨p1,hK _ (dV _ _ _) (fM _ _ _) p2⟩
  |jD x xs =>
   simp only[lu] at h ⊢
   split at h
   ·rename_i f cap e1
    cases hb:Nat.blt f 4096 with
    |true=>simp only[hb,cond_true] at h ⊢; exact aP.mono h fun t h' ⟨p1,p2⟩=>⟨p1,hK _ (dV _ _ _) (fM _ _ _) p2⟩
    |false=>simp only[hb,cond_false] at h ⊢; exact⟨h.1,aP.mono h.2 fun t h' ⟨p1,p2⟩=>⟨p1,hK _ (dV _ _ _) (fM _ _ _) p2⟩⟩
   ·exact h.elim
  |FI ty k z m ps=>exact⟨h.1,hK _ (dV _ _ _) (fM _ _ _) h.2⟩
  |_=>exact absurd rfl hq
theorem UC{j i:aN}{nj ni:Nat}(h:Du j i=true){K:AS->Prop}{s:AS}(hne:nj≠ni)(hni:s.nx<=ni)(hfr:(bH i.op=true/\vC i.op=true)\/(s.hp ni=none/\ ∀ q ob,s.hp q=some ob->T.aO (· ≠ni) ob.l))
  (H:Il P true nj j (Il P true ni i K) s):Il P true ni i (Il P true nj j K) s:=by
 simp only[Du,Bool.and_eq_true] at h
 obtain⟨hap,hk⟩:=h
 have A:=sF hap
 have gj: ∀ t,gv i.g (s.put j.d t)=gv i.g s:=fun t=>wP A.ji
 have gi: ∀ t,gv j.g (s.put i.d t)=gv j.g s:=fun t=>wP A.ij
 have xj: ∀ t,∀ x∈i.op.xs,s.ev x=(s.put j.d t).ev x:=fun t=>fK A.ji
 have xi: ∀ t,∀ x∈j.op.xs,s.ev x=(s.put i.d t).ev x:=fun t=>fK A.ij
 have oi: ∀ t,∀ m∈j.ne,(s.put i.d t).obj m=s.obj m:=fun t=>FZ A.ij
 have pc: ∀ t u,(s.put j.d t).put i.d u=(s.put i.d u).put j.d t:=fun t u=>put_comm A.dd
 have hpp: ∀ d t,(s.put d t).hp=s.hp:=fun d t=>ny s d t
 have he: ∀ d t,vN s.hp (s.put d t).hp:=fun d t=>by rw[hpp]; exact fun _ _ h=>h
 have he': ∀ d t,vN (s.put d t).hp s.hp:=fun d t=>by rw[hpp]; exact fun _ _ h=>h
 have hdd: ∀ z,j.d=some z->i.d≠some z:=fun z hz=>A.dd z hz
 simp only[Bool.or_eq_true,Bool.and_eq_true] at hk
 have hdi:nC i.op=true\/i.dr true=true:=by
  unfold aN.dr
  cases i.op<;>first|exact .inr rfl|exact .inl rfl
 have Zl:bH i.op=true\/s.hp ni=none:=hfr.imp (fun h=>h.1) fun h=>h.1
 rcases H with ⟨hgj,fj,H⟩|⟨hgj,H⟩
 rotate_left
 ·
  rcases H with ⟨hgi,fi,H⟩|⟨hgi,H⟩
  ·rw[gj] at hgi
   refine .inl ⟨hgi,iO A.ji fi,jr (fun s' _ _ ⟨hB,hK⟩=>?_) (Ac hdi (xj _) hdd H)⟩
   exact .inr ⟨by rw[hB.gv gi]; exact hgj,hK⟩
  ·rw[gj] at hgi
   refine .inr ⟨hgi,.inr ⟨by rw[gi]; exact hgj,?_⟩⟩
   rw[<- pc]; exact H
 ·rcases hk with ((⟨hqj,hok⟩|⟨⟨hcj,hqi⟩,hfl⟩)|⟨⟨hcj,hai⟩,hfl⟩)|⟨haj,hai⟩
  ·
   rw[bF hqj] at H
   obtain⟨hq,H⟩:=H
   rcases H with ⟨hgi,fi,H⟩|⟨hgi,H⟩
   ·rw[gj] at hgi
    have fi':=iO A.ji fi
    refine .inl ⟨hgi,fi',jr (fun s' _ _ ⟨hB,hK⟩=>?_) (Ac hdi (xj _) hdd H)⟩
    have hev: ∀ x∈j.op.xs,s.ev x=s'.ev x:=fun x hx=>hB.ev fun u=>xi u x hx
    obtain⟨r1,r2⟩:qc s' j.op/\qt s' j.op=qt s j.op:=by
     cases hnf:vC j.op with
     |true=>exact Qv hnf hev hq
     |false =>
      obtain⟨N,hN,hX⟩:=UA hok hnf hqj hni Zl fj fi' hB
      exact Xg hqj hev hN hX hq
    refine .inl ⟨by rw[hB.gv gi]; exact hgj,vG hev (fun m hm=>hB.obj fun u=>oi u m hm) hB.nx fj,(bF hqj).2 ⟨r1,?_⟩⟩
    rw[r2]; exact hK
   ·rw[gj] at hgi
    refine .inr ⟨hgi,.inl ⟨by rw[gi]; exact hgj,iJ A.ij fj,(bF hqj).2 ?_⟩⟩
    obtain⟨r1,r2⟩:=AX hqj (xi T.un) (he _ _) hq
    refine⟨r1,?_⟩
    rw[r2,<- pc]; exact H
  ·
   rw[zn hcj] at H
   obtain⟨f,ts,h1,h2⟩:=H
   cases hjf:j.fl with
   |true =>
    have YG:vC i.op=true:=by
     rcases hfl with h|h
     ·rw[hjf] at h; cases h
     ·exact h
    unfold lU at h2
    obtain⟨⟨t0,h0,⟨e0,hG⟩⟩,_,_⟩:=id h2
    rcases hG with ⟨hgi,fi,hG⟩|⟨hgi,hG⟩
    ·rw[oz,gj] at hgi
     rw[bF hqi] at hG
     have hev: ∀ x∈i.op.xs,({(s.put j.d t0) with hp:=h0}:AS).ev x=s.ev x:=fun x hx=>by rw[xj t0 x hx]; cases x<;>rfl
     obtain⟨q1,_⟩:=Qv YG hev hG.1
     have fi0:iV i s:=by
      have h:=vY (h:=s.hp) fi
      have e:({({(s.put j.d t0) with hp:=h0}:AS) with hp:=s.hp}:AS)=s.put j.d t0:=oN rfl
      rw[e] at h
      exact iO A.ji h
     refine .inl ⟨hgi,fi0,(bF hqi).2 ⟨q1,.inl ⟨by rw[gi]; exact hgj,iJ A.ij fj,h1 _ (xi _) _ ?_⟩⟩⟩
     unfold lU
     rw[hpp]
     refine h2.mono fun t h' ⟨p1,p2⟩=>⟨p1,?_⟩
     rcases p2 with ⟨_,_,p2⟩|⟨p3,_⟩
     ·rw[bF hqi] at p2
      have abt: ∀ x∈i.op.xs,({(s.put j.d t) with hp:=h'}:AS).ev x=s.ev x:=fun x hx=>by rw[xj t x hx]; cases x<;>rfl
      obtain⟨_,q2⟩:=Qv YG abt p2.1
      have p2':=p2.2
      rw[<- q2] at p2'
      rw[bT] at p2'
      rw[bT,bT,<- put_comm A.dd]
      exact p2'
     ·rw[oz,gj,hgi] at p3; cases p3
    ·rw[oz,gj] at hgi
     refine .inr ⟨hgi,.inl ⟨by rw[gi]; exact hgj,iJ A.ij fj,h1 _ (xi _) _ ?_⟩⟩
     unfold lU
     rw[hpp]
     refine h2.mono fun t h' ⟨p1,p2⟩=>⟨p1,?_⟩
     rcases p2 with ⟨p3,_⟩|⟨_,p2⟩
     ·rw[oz,gj,hgi] at p3; cases p3
     ·rw[bT] at p2
      rw[bT,bT,<- put_comm A.dd]
      exact p2
   |false =>
   have hjd:j.dr true=true:=by
    unfold aN.dr; rw[hjf]; cases j.op<;>rfl
   unfold lU at h2
   obtain⟨⟨t0,h0,⟨e0,hG⟩⟩,_,_⟩:=id h2
   rw[oN (e0 hjd).1] at hG
   rcases hG with ⟨hgi,fi,hG⟩|⟨hgi,hG⟩
   ·rw[gj] at hgi
    rw[bF hqi] at hG
    obtain⟨q1,_⟩:=AX hqi (fun x hx=>(xj _ x hx).symm) (he' _ _) hG.1
    refine .inl ⟨hgi,iO A.ji fi,(bF hqi).2 ⟨q1,.inl ⟨by rw[gi]; exact hgj,iJ A.ij fj,h1 _ (xi _) _ ?_⟩⟩⟩
    unfold lU
    rw[hpp]
    refine h2.mono fun t h' ⟨p1,p2⟩=>⟨p1,?_⟩
    have hh:=(p1 hjd).1
    rw[oN hh] at p2
    rw[oN (by rw[hpp]; exact hh)]
    rcases p2 with ⟨_,_,p2⟩|⟨p3,_⟩
    ·rw[bF hqi] at p2
     obtain⟨_,q2⟩:=AX hqi (fun x hx=>(xj _ x hx).symm) (he' _ _) p2.1
     rw[<- pc,q2]; exact p2.2
    ·rw[gj,hgi] at p3; cases p3
   ·rw[gj] at hgi
    refine .inr ⟨hgi,.inl ⟨by rw[gi]; exact hgj,iJ A.ij fj,h1 _ (xi _) _ ?_⟩⟩
    unfold lU
    rw[hpp]
    refine h2.mono fun t h' ⟨p1,p2⟩=>⟨p1,?_⟩
    have hh:=(p1 hjd).1
    rw[oN hh] at p2
    rw[oN (by rw[hpp]; exact hh)]
    rcases p2 with ⟨p3,_⟩|⟨_,p2⟩
    ·rw[gj,hgi] at p3; cases p3
    ·rw[<- pc]; exact p2
  ·
   obtain⟨hfresh,acY⟩:=hfr.resolve_left fun h=>by
    cases hop:i.op<;>rw[hop] at hai h<;>first|(simp[FM] at hai; done)|(simp[bH] at h)
   rw[zn hcj] at H
   obtain⟨f,ts,h1,h2⟩:=H
   have hjd:j.dr true=true:=by
    have hjf:j.fl=false:=by simpa using hfl
    unfold aN.dr; rw[hjf]; cases j.op<;>rfl
   unfold lU at h2
   obtain⟨⟨t0,h0,⟨e0,hG⟩⟩,_,_⟩:=id h2
   rw[oN (e0 hjd).1] at hG
   rcases hG with ⟨hgi,fi,hG⟩|⟨hgi,hG⟩
   ·rw[gj] at hgi
    rw[BG hai] at hG
    obtain⟨g1,g2⟩:=hG
    rw[<- zo (xj t0)] at g1 g2
    generalize hob:nK s i.op=ob at g1 g2
    refine .inl ⟨hgi,iO A.ji fi,g1 s (fun x hx=>(xj _ x hx).symm) (he' _ _) _ (.inl ⟨by rw[oz,gi]; exact hgj,vY (iJ A.ij fj),?_⟩)⟩
    refine h1 _ (fun x hx=>by rw[xi (Dp ni i.op) x hx]; cases x<;>rfl) _ ?_
    unfold lU
    have h3:aP P f ts s.hp nj fun t h'=>h'=s.hp/\t.free=true/\K {((s.put j.d t).put i.d (Dp ni i.op)) with hp:=upd s.hp ni (some ob)}:=by
     refine h2.mono fun t h' ⟨p1,p2⟩=>⟨(p1 hjd).1,(p1 hjd).2,?_⟩
     rw[oN (p1 hjd).1] at p2
     rcases p2 with ⟨_,_,p2⟩|⟨p3,_⟩
     ·rw[BG hai] at p2
      obtain⟨_,k2⟩:=p2
      rw[<- zo (xj t),hob,hpp] at k2; exact k2
     ·rw[gj,hgi] at p3; cases p3
    refine(h3.frame (LG (ob:=ob) hfresh) fun q oq hq=>?_).mono fun t h' ⟨p1,p2,p3⟩=>⟨fun _=>⟨p1,p2⟩,?_⟩
    ·refine T.ay (fun m hm hs=>?_) _ (acY q oq hq)
     simpa [upd,hm] using hs
    ·subst p1
     rw[pc] at p3
     rw[bT]
     rw[bT] at p3
     exact p3
   ·rw[gj] at hgi
    refine .inr ⟨hgi,.inl ⟨by rw[gi]; exact hgj,iJ A.ij fj,h1 _ (xi _) _ ?_⟩⟩
    unfold lU
    rw[hpp]
    refine h2.mono fun t h' ⟨p1,p2⟩=>⟨p1,?_⟩
    have hh:=(p1 hjd).1
    rw[oN hh] at p2
    rw[oN (by rw[hpp]; exact hh)]
    rcases p2 with ⟨p3,_⟩|⟨_,p2⟩
    ·rw[gj,hgi] at p3; cases p3
    ·rw[<- pc]; exact p2
  ·
   obtain⟨hfresh,acY⟩:=hfr.resolve_left fun h=>by
    cases hop:i.op<;>rw[hop] at hai h<;>first|(simp[xB] at hai; done)|(simp[bH] at h)
   have ad2:FM i.op=true:=Dt hai
   rw[BG (Dt haj)] at H
   obtain⟨h1,h2⟩:=H
   have Xj: ∀ x∈i.op.xs,s.ev x=({(s.put j.d (Dp nj j.op)) with hp:=upd s.hp nj (some (nK s j.op))}:AS).ev x:=fun x hx=>by rw[xj (Dp nj j.op) x hx]; cases x<;>rfl
   rcases h2 with ⟨hgi,fi,h2⟩|⟨hgi,h2⟩
   ·rw[oz,gj] at hgi
    have fi':iV i s:=iO A.ji (vY (h:=s.hp) fi |> fun h=>by
     have e:({({(s.put j.d (Dp nj j.op)) with hp:=upd s.hp nj (some (nK s j.op))}:AS) with hp:=s.hp}:AS)=s.put j.d (Dp nj j.op):=by
      show({(s.put j.d (Dp nj j.op)) with hp:=s.hp}:AS)=_
      exact oN rfl
     rw[e] at h; exact h)
    refine .inl ⟨hgi,fi',?_⟩
    have hob:=zo (op:=i.op) Xj
    have key: ∀ K':AS->Prop,K' {(s.put i.d (Dp ni i.op)) with hp:=upd s.hp ni (some (nK s i.op))}->lu P (i.dr true) ni i.d i.op K' s:=by
     intro K' hK'
     cases hop:i.op with
     |al ty k z =>
      rw[hop] at h2 hK'
      obtain⟨g1,g2⟩:=h2
      refine⟨?_,hK'⟩
      simp only[Bool.and_eq_true] at g1 ⊢
      exact⟨⟨⟨g1.1.1.1,Sr g1.1.2 g1.1.1.2⟩,g1.1.2⟩,g1.2⟩
     |make ty k bytes z x y =>
      rw[hop] at h2 hK' Xj
      simp only[mO.xs,List.mem_cons,List.not_mem_nil,or_false,forall_eq_or_imp,forall_eq] at Xj
      simp only[lu,<- Xj.1,<- Xj.2] at h2 ⊢
      split at h2
      ·rename_i k1 a k2 b e1 e2
       obtain⟨g1,g2,g3⟩:=h2
       simp only[nK,e1,Dp] at hK'
       refine⟨?_,g2,hK'⟩
       simp only[Bool.and_eq_true] at g1 ⊢
       exact⟨⟨⟨g1.1.1.1,Sr g1.1.2 g1.1.1.2⟩,g1.1.2⟩,g1.2⟩
      ·exact h2.elim
     |_=>rw[hop] at hai; cases hai
    rw[BG ad2] at h2
    obtain⟨_,h2⟩:=h2
    refine key _ (.inl ⟨by rw[oz,gi]; exact hgj,vY (iJ A.ij fj),h1 _ (fun x hx=>by rw[xi (Dp ni i.op) x hx]; cases x<;>rfl) (LG hfresh) _ ?_⟩)
    rw[<- hob] at h2
    have e1:upd (upd s.hp nj (some (nK s j.op))) ni (some (nK s i.op))=upd (upd s.hp ni (some (nK s i.op))) nj (some (nK s j.op)):=by
     funext q
     simp only[upd]
     by_cases h1:q=ni<;>by_cases h2:q=nj<;>simp_all
    have e2: ∀ (a b:Hp),({(({(s.put j.d (Dp nj j.op)) with hp:=a}:AS).put i.d (Dp ni i.op)) with hp:=b}:AS)= {(({(s.put i.d (Dp ni i.op)) with hp:=a}:AS).put j.d (Dp nj j.op)) with hp:=b}:=by
     intro a b
     rw[bT,bT,<- bT,<- bT]
     have:=pc (Dp nj j.op) (Dp ni i.op)
     cases hjd:j.d<;>cases hid:i.d<;>rw[hjd,hid] at this<;>simp only[AS.put] at this ⊢ <;>simp_all
    simp only at h2
    rw[e1] at h2
    have e3:=e2 (upd s.hp nj (some (nK s j.op))) (upd (upd s.hp ni (some (nK s i.op))) nj (some (nK s j.op)))
    rw[e3] at h2
    have e4: ∀ (a a' b:Hp),({(({(s.put i.d (Dp ni i.op)) with hp:=a}:AS).put j.d (Dp nj j.op)) with hp:=b}:AS)= {(({(s.put i.d (Dp ni i.op)) with hp:=a'}:AS).put j.d (Dp nj j.op)) with hp:=b}:=by
     intro a a' b; cases j.d<;>rfl
    rw[e4 _ (upd s.hp ni (some (nK s i.op)))] at h2
    exact h2
   ·rw[oz,gj] at hgi
    refine .inr ⟨hgi,.inl ⟨by rw[gi]; exact hgj,iJ A.ij fj,h1 _ (xi _) (he _ _) _ ?_⟩⟩
    rw[hpp,<- pc]
    rw[<- bT] at h2
    exact h2
theorem xC{dr:Bool}{n:Nat}{o:aN}(hm:o.ad=false){K:AS->Prop}{s:AS}:Qw P dr n o K s↔Il P dr n o K s:=by
 constructor
 ·rintro(⟨h1,h0,h2⟩|h)
  ·exact .inl ⟨h1,h0,jr (fun s' _ _ h=>h.2) h2⟩
  ·exact .inr h
 ·rintro(⟨h1,h0,h2⟩|h)
  ·exact .inl ⟨h1,h0,jr (fun s' _ _ h=>⟨fun e=>(by rw[hm] at e; cases e),h⟩) h2⟩
  ·exact .inr h
theorem ED{dr:Bool}{n:Nat}{o:aN}{K K':AS->Prop}{s:AS}(hK: ∀ s',s'.nx=s.nx->s'.pin=s.pin->K s'->K' s')(h:Il P dr n o K s):Il P dr n o K' s:=by
 rcases h with ⟨h1,h0,h2⟩|⟨h1,h2⟩
 ·exact .inl ⟨h1,h0,jr hK h2⟩
 ·exact .inr ⟨h1,hK _ (dV _ _ _) (fM _ _ _) h2⟩
theorem swap_mk{j i:aN}{nj ni:Nat}(hap:vF j i=true)(hqj:bH j.op=true)(hci:nC i.op=true)(hmj:j.ad=false)(zO:i.ad=true){K:AS->Prop}{s:AS}(H:Qw P true nj j (Qw P true ni i K) s):Qw P true ni i (Qw P true nj j K) s:=by
 have A:=sF hap
 have gj: ∀ t,gv i.g (s.put j.d t)=gv i.g s:=fun t=>wP A.ji
 have gi: ∀ t,gv j.g (s.put i.d t)=gv j.g s:=fun t=>wP A.ij
 have xj: ∀ t,∀ x∈i.op.xs,s.ev x=(s.put j.d t).ev x:=fun t=>fK A.ji
 have xi: ∀ t,∀ x∈j.op.xs,s.ev x=(s.put i.d t).ev x:=fun t=>fK A.ij
 have oi: ∀ t,∀ m∈j.ne,(s.put i.d t).obj m=s.obj m:=fun t=>FZ A.ij
 have pc: ∀ t u,(s.put j.d t).put i.d u=(s.put i.d u).put j.d t:=fun t u=>put_comm A.dd
 have hpp: ∀ d t,(s.put d t).hp=s.hp:=fun d t=>ny s d t
 have he: ∀ d t,vN s.hp (s.put d t).hp:=fun d t=>by rw[hpp]; exact fun _ _ h=>h
 have hdd: ∀ z,j.d=some z->i.d≠some z:=fun z hz=>A.dd z hz
 have nmj: ∀ {p:Prop},j.ad=true->p:=fun e=>by rw[hmj] at e; cases e
 rcases H with ⟨hgj,fj,H⟩|⟨hgj,H⟩
 rotate_left
 ·
  rcases H with ⟨hgi,fi,H⟩|⟨hgi,H⟩
  ·rw[gj] at hgi
   refine .inl ⟨hgi,iO A.ji fi,jr (fun s' _ _ ⟨hB,hM,hK⟩=>?_) (Ac (.inl hci) (xj _) hdd H)⟩
   refine⟨fun e=>?_,.inr ⟨by rw[hB.gv gi]; exact hgj,hK⟩⟩
   have:=hM e
   rw[hpp,ny] at this; exact this
  ·rw[gj] at hgi
   refine .inr ⟨hgi,.inr ⟨by rw[gi]; exact hgj,?_⟩⟩
   rw[<- pc]; exact H
 ·rw[bF hqj] at H
  obtain⟨hq,_,H⟩:=H
  rcases H with ⟨hgi,fi,H⟩|⟨hgi,H⟩
  ·rw[gj] at hgi
   have fi':=iO A.ji fi
   refine .inl ⟨hgi,fi',jr (fun s' _ _ ⟨hB,hM,hK⟩=>?_) (Ac (.inl hci) (xj _) hdd H)⟩
   have hev: ∀ x∈j.op.xs,s.ev x=s'.ev x:=fun x hx=>hB.ev fun u=>xi u x hx
   have hX:vN s.hp s'.hp:=by
    have:=hM zO
    rw[hpp,ny] at this; exact this
   obtain⟨r1,r2⟩:=AX hqj hev hX hq
   refine⟨fun _=>hX,.inl ⟨by rw[hB.gv gi]; exact hgj,vG hev (fun m hm=>hB.obj fun u=>oi u m hm) hB.nx fj,(bF hqj).2 ⟨r1,nmj,?_⟩⟩⟩
   rw[r2]; exact hK
  ·rw[gj] at hgi
   refine .inr ⟨hgi,.inl ⟨by rw[gi]; exact hgj,iJ A.ij fj,(bF hqj).2 ?_⟩⟩
   obtain⟨r1,r2⟩:=AX hqj (xi T.un) (he _ _) hq
   refine⟨r1,nmj,?_⟩
   rw[r2,<- pc]; exact H
theorem Xk{j i:aN}{nj ni:Nat}(hap:vF j i=true)(hcj:nC j.op=true)(hqi:bH i.op=true)(YG:vC i.op=true)(zO:i.ad=false){K:AS->Prop}{s:AS}(H:Qw P true nj j (Qw P true ni i K) s):Qw P true ni i (Qw P true nj j K) s:=by
 have A:=sF hap
 have gj: ∀ t,gv i.g (s.put j.d t)=gv i.g s:=fun t=>wP A.ji
 have gi: ∀ t,gv j.g (s.put i.d t)=gv j.g s:=fun t=>wP A.ij
 have xj: ∀ t,∀ x∈i.op.xs,s.ev x=(s.put j.d t).ev x:=fun t=>fK A.ji
 have xi: ∀ t,∀ x∈j.op.xs,s.ev x=(s.put i.d t).ev x:=fun t=>fK A.ij
 have pc: ∀ t u,(s.put j.d t).put i.d u=(s.put i.d u).put j.d t:=fun t u=>put_comm A.dd
 have hpp: ∀ d t,(s.put d t).hp=s.hp:=fun d t=>ny s d t
 have he: ∀ d t,vN s.hp (s.put d t).hp:=fun d t=>by rw[hpp]; exact fun _ _ h=>h
 have he': ∀ d t,vN (s.put d t).hp s.hp:=fun d t=>by rw[hpp]; exact fun _ _ h=>h
 have hdd: ∀ z,j.d=some z->i.d≠some z:=fun z hz=>A.dd z hz
 have nmi: ∀ {p:Prop},i.ad=true->p:=fun e=>by rw[zO] at e; cases e
 rcases H with ⟨hgj,fj,H⟩|⟨hgj,H⟩
 rotate_left
 ·
  rcases H with ⟨hgi,fi,H⟩|⟨hgi,H⟩
  ·rw[gj] at hgi
   rw[bF hqi] at H
   obtain⟨r1,r2⟩:=AX hqi (fun x hx=>(xj T.un x hx).symm) (he' _ _) H.1
   refine .inl ⟨hgi,iO A.ji fi,(bF hqi).2 ⟨r1,nmi,.inr ⟨by rw[gi]; exact hgj,?_⟩⟩⟩
   rw[<- pc,r2]; exact H.2.2
  ·rw[gj] at hgi
   refine .inr ⟨hgi,.inr ⟨by rw[gi]; exact hgj,?_⟩⟩
   rw[<- pc]; exact H
 ·rw[zn hcj] at H
  obtain⟨f,ts,h1,h2⟩:=H
  unfold lU at h2
  obtain⟨⟨t0,h0,⟨e0,_,hG⟩⟩,_,_⟩:=id h2
  rcases hG with ⟨hgi,fi,hG⟩|⟨hgi,hG⟩
  ·rw[oz,gj] at hgi
   rw[bF hqi] at hG
   have hev: ∀ x∈i.op.xs,({(s.put j.d t0) with hp:=h0}:AS).ev x=s.ev x:=fun x hx=>by rw[xj t0 x hx]; cases x<;>rfl
   obtain⟨q1,_⟩:=Qv YG hev hG.1
   have fi0:iV i s:=by
    have h:=vY (h:=s.hp) fi
    have e:({({(s.put j.d t0) with hp:=h0}:AS) with hp:=s.hp}:AS)=s.put j.d t0:=oN rfl
    rw[e] at h
    exact iO A.ji h
   refine .inl ⟨hgi,fi0,(bF hqi).2 ⟨q1,nmi,.inl ⟨by rw[gi]; exact hgj,iJ A.ij fj,h1 _ (xi _) _ ?_⟩⟩⟩
   unfold lU
   rw[hpp]
   refine h2.mono fun t h' ⟨p1,pm,p2⟩=>⟨p1,?_⟩
   rcases p2 with ⟨_,_,p2⟩|⟨p3,_⟩
   ·rw[bF hqi] at p2
    have abt: ∀ x∈i.op.xs,({(s.put j.d t) with hp:=h'}:AS).ev x=s.ev x:=fun x hx=>by rw[xj t x hx]; cases x<;>rfl
    obtain⟨_,q2⟩:=Qv YG abt p2.1
    have p2':=p2.2.2
    rw[<- q2] at p2'
    rw[bT] at p2'
    refine⟨fun e=>by rw[hpp]; exact pm e,?_⟩
    rw[bT,bT,<- put_comm A.dd]
    exact p2'
   ·rw[oz,gj,hgi] at p3; cases p3
  ·rw[oz,gj] at hgi
   refine .inr ⟨hgi,.inl ⟨by rw[gi]; exact hgj,iJ A.ij fj,h1 _ (xi _) _ ?_⟩⟩
   unfold lU
   rw[hpp]
   refine h2.mono fun t h' ⟨p1,pm,p2⟩=>⟨p1,?_⟩
   rcases p2 with ⟨p3,_⟩|⟨_,p2⟩
   ·rw[oz,gj,hgi] at p3; cases p3
   ·refine⟨fun e=>by rw[hpp]; exact pm e,?_⟩
    rw[bT] at p2
    rw[bT,bT,<- put_comm A.dd]
    exact p2
theorem Sv(t:T){A:Nat->Prop}(h: ∀ i,A i):t.ids A:=T.bG (fun i _=>h i) _ (kV t)
theorem xE{dr:Bool}{n:Nat}{o:aN}(hr:o.ar=false){K:AS->Prop}{s:AS}:Io P dr n o K s↔Qw P dr n o K s:=by
 unfold Io Qw opR
 rw[hr]; simp
theorem Oh{dr:Bool}{n:Nat}{o:aN}{K K':AS->Prop}{s:AS}(hK: ∀ s',s'.nx=s.nx->s'.pin=s.pin->K s'->K' s')(h:Qw P dr n o K s):Qw P dr n o K' s:=by
 rcases h with ⟨h1,h0,h2⟩|⟨h1,h2⟩
 ·exact .inl ⟨h1,h0,jr (fun s' a b h=>⟨h.1,hK s' a b h.2⟩) h2⟩
 ·exact .inr ⟨h1,hK _ (dV _ _ _) (fM _ _ _) h2⟩
theorem Ip{n:Nat}{d:Option Nat}{op:mO}{K K':AS->Prop}{s:AS}(hK: ∀ s',s'.nx=s.nx->s'.pin=s.pin->K s'->K' s')(h:WZ P n d op K s):WZ P n d op K' s:=by
 unfold WZ at h ⊢
 split at h
 ·obtain⟨t,o,h1,h2,h3,h4⟩:=h
  exact⟨t,o,h1,h2,h3,hK _ (dV _ _ _) (fM _ _ _) h4⟩
 ·exact h.elim
theorem Zm{n:Nat}{d:Option Nat}{op:mO}{K:AS->Prop}{s:AS}(h:WZ P n d op K s):lu P false n d op K s:=by
 unfold WZ at h
 split at h
 ·rename_i f xs
  obtain⟨t,o,h1,h2,h3,h4⟩:=h
  show lU P false n d f (xs.map s.ev) K s
  unfold lU
  exact(h3 s.hp (fun _ _ h=>h) (fun _ _ _=>bQ.2 fun _ _=>Sv _ fun _ h=>h)).mono fun t' h' ⟨e1,e2⟩=>⟨fun e=>(by cases e),by rw[e1,e2]; exact h4⟩
 ·exact h.elim
theorem Dv{n:Nat}{d:Option Nat}{op:mO}{K:AS->Prop}{s:AS}(h:WZ P n d op K s): ∃ f xs,op= .call f xs:=by
 unfold WZ at h
 split at h
 ·exact⟨_,_,rfl⟩
 ·exact h.elim
theorem Dw{dr:Bool}{n:Nat}{o:aN}{K K':AS->Prop}{s:AS}(hK: ∀ s',s'.nx=s.nx->s'.pin=s.pin->K s'->K' s')(h:Io P dr n o K s):Io P dr n o K' s:=by
 rcases h with ⟨h1,h0,⟨h3,h2⟩|⟨h3,h4,h2⟩⟩|⟨h1,h2⟩
 ·exact .inl ⟨h1,h0,.inl ⟨h3,jr (fun s' a b h=>⟨h.1,hK s' a b h.2⟩) h2⟩⟩
 ·exact .inl ⟨h1,h0,.inr ⟨h3,h4,Ip hK h2⟩⟩
 ·exact .inr ⟨h1,hK _ (dV _ _ _) (fM _ _ _) h2⟩
theorem Xl{A B C:Nat->Prop}{t:T}:t.ids (fun j=>B j->C j)->t.ids (fun j=>A j->B j)->t.ids (fun j=>A j->C j):=by
 apply T.rec (motive_1:=fun t=>t.ids (fun j=>B j->C j)->t.ids (fun j=>A j->B j)->t.ids (fun j=>A j->C j)) (motive_2:=fun l=>T.aO (fun j=>B j->C j) l->T.aO (fun j=>A j->B j) l->T.aO (fun j=>A j->C j) l)
 all_goals simp_all[T.ids,T.aO]
theorem zq{s s':AS}(e:s'.hp=s.hp): ∀ i ob,s.hp i=some ob->T.aO (fun j=>(s'.hp j).isSome=true->(s.hp j).isSome=true) ob.l:=fun _ _ _=>by
 rw[e]; exact bQ.2 fun _ _=>Sv _ fun _ h=>h
theorem zu{n:Nat}{d:Option Nat}{f:FuncId}{xs:List X}{K K':AS->Prop}{s s':AS}(hx: ∀ x∈xs,s.ev x=s'.ev x)(hh:vN s.hp s'.hp)(hi: ∀ i ob,s.hp i=some ob->T.aO (fun j=>(s'.hp j).isSome=true->(s.hp j).isSome=true) ob.l)(h:WZ P n d (.call f xs) K s)
  (hK: ∀ t o,t.ids (fun i=>i=n)->(∀ ob,o=some ob->T.bZ ob.l=true)->K {(s.put d t) with hp:=gu s.hp n o}->K' {(s'.put d t) with hp:=gu s'.hp n o}):WZ P n d (.call f xs) K' s':=by
 obtain⟨t,o,h1,h2,h3,h4⟩:=h
 refine⟨t,o,h1,h2,fun h he hc=>?_,hK t o h1 h2 h4⟩
 rw[<- List.map_congr_left hx]
 refine h3 h (fun i ob hi=>he i ob (hh i ob hi)) fun i ob ho=>?_
 rw[bQ]
 intro t ht
 have a:=bQ.1 (hi i ob ho) t ht
 have b:=bQ.1 (hc i ob (hh i ob ho)) t ht
 exact Xl a b
theorem Iq{h:Hp}{n q:Nat}{o:Option Ob}(e:q≠n):gu h n o q=h q:=by
 cases o with
 |none=>rfl
 |some ob=>simp only[gu,upd,if_neg e]
theorem Xm{h:Hp}{n:Nat}{o:Option Ob}(e:h n=none):vN h (gu h n o):=fun q ob hq=>by
 rw[Iq]; exact hq
 rintro rfl; rw[e] at hq; cases hq
theorem UD{h:Hp}{n m:Nat}{o:Option Ob}{ob:Ob}(e:n≠m):gu (upd h m (some ob)) n o=upd (gu h n o) m (some ob):=by
 cases o with
 |none=>rfl
 |some ob' =>
  funext q
  simp only[gu,upd]
  by_cases h1:q=n<;>by_cases h2:q=m<;>simp_all
theorem J4{h h':Hp}{t:T}(hf:t.free=true)(e:t.jS h=true):t.jS h'=true:=by
 cases t<;>first|exact e|(simp[T.free] at hf; done)
theorem LH{dr:Bool}{n:Nat}{d:Option Nat}{op:mO}(hc:xB op=true){K:AS->Prop}{s:AS}(h:lu P dr n d op K s) :
  (∀ s':AS,(∀ x∈op.xs,s.ev x=s'.ev x)-> ∀ K':AS->Prop,K' {(s'.put d (Dp n op)) with hp:=upd s'.hp n (some (nK s op))}->lu P dr n d op K' s') /\
   K {(s.put d (Dp n op)) with hp:=upd s.hp n (some (nK s op))}:=by
 refine⟨fun s' hx K' h'=>?_,((BG (Dt hc)).1 h).2⟩
 cases op<;>try (simp[xB] at hc; done)
 ·rename_i ty k z
  obtain⟨h1,_⟩:=h
  simp only[Bool.and_eq_true] at h1
  refine⟨?_,h'⟩
  simp only[Bool.and_eq_true]
  exact⟨⟨⟨h1.1.1.1,J4 h1.1.2 h1.1.1.2⟩,h1.1.2⟩,h1.2⟩
 ·rename_i ty k bytes z x y
  have ex:=hx x (by simp[mO.xs])
  have ey:=hx y (by simp[mO.xs])
  simp only[lu] at h ⊢
  rw[<- ex,<- ey]
  split at h
  ·rename_i k1 a k2 b e1 e2
   obtain⟨g1,g2,_⟩:=h
   simp only[Bool.and_eq_true] at g1
   simp only[nK,e1] at h'
   refine⟨?_,g2,h'⟩
   simp only[Bool.and_eq_true]
   exact⟨⟨⟨g1.1.1.1,J4 g1.1.2 g1.1.1.2⟩,g1.1.2⟩,g1.2⟩
  ·exact h.elim
theorem Zn{j i:aN}{nj ni:Nat}(hap:vF j i=true)(hqj:bH j.op=true)(hmj:j.ad=false)(LJ:j.ar=false)(Pn:i.ar=true){K:AS->Prop}{s:AS}(hfr:i.op.xs=i.op.xs->bH i.op=false->s.hp ni=none)
  (H:Io P true nj j (Io P true ni i K) s):Io P true ni i (Io P true nj j K) s:=by
 have A:=sF hap
 have gj: ∀ t,gv i.g (s.put j.d t)=gv i.g s:=fun t=>wP A.ji
 have gi: ∀ t,gv j.g (s.put i.d t)=gv j.g s:=fun t=>wP A.ij
 have xj: ∀ t,∀ x∈i.op.xs,s.ev x=(s.put j.d t).ev x:=fun t=>fK A.ji
 have xi: ∀ t,∀ x∈j.op.xs,s.ev x=(s.put i.d t).ev x:=fun t=>fK A.ij
 have pc: ∀ t u,(s.put j.d t).put i.d u=(s.put i.d u).put j.d t:=fun t u=>put_comm A.dd
 have hpp: ∀ d t,(s.put d t).hp=s.hp:=fun d t=>ny s d t
 have he: ∀ d t,vN s.hp (s.put d t).hp:=fun d t=>by rw[hpp]; exact fun _ _ h=>h
 have he': ∀ d t,vN (s.put d t).hp s.hp:=fun d t=>by rw[hpp]; exact fun _ _ h=>h
 have nmj: ∀ {p:Prop},j.ad=true->p:=fun e=>by rw[hmj] at e; cases e
 have ri: ∀ {K s},opR P true ni i K s->i.fl=true/\WZ P ni i.d i.op K s:=by
  rintro K s (⟨h,_⟩|⟨_,h⟩)
  ·rw[Pn] at h; cases h
  ·exact h
 rcases H with ⟨hgj,fj,H⟩|⟨hgj,H⟩
 rotate_left
 ·rcases H with ⟨hgi,fi,H⟩|⟨hgi,H⟩
  ·rw[gj] at hgi
   obtain⟨hfl,H⟩:=ri H
   obtain⟨f,xs,eo⟩:=Dv H
   refine .inl ⟨hgi,iO A.ji fi,.inr ⟨Pn,hfl,?_⟩⟩
   rw[eo] at H ⊢
   refine zu (fun x hx=>(xj _ x (by rw[eo]; exact hx)).symm) (he' _ _) (zq (hpp _ _).symm) H fun t o _ _ k=>.inr ⟨by rw[oz,gi]; exact hgj,?_⟩
   rw[hpp,pc,bT,bT] at k
   rw[bT]; exact k
  ·rw[gj] at hgi
   refine .inr ⟨hgi,.inr ⟨by rw[gi]; exact hgj,?_⟩⟩
   rw[<- pc]; exact H
 ·rcases H with ⟨_,H⟩|⟨h,_⟩
  rotate_left
  ·rw[LJ] at h; cases h
  rw[bF hqj] at H
  obtain⟨hq,_,H⟩:=H
  rcases H with ⟨hgi,fi,H⟩|⟨hgi,H⟩
  ·rw[gj] at hgi
   obtain⟨hfl,H⟩:=ri H
   obtain⟨f,xs,eo⟩:=Dv H
   have h0:s.hp ni=none:=hfr rfl (by rw[eo]; rfl)
   refine .inl ⟨hgi,iO A.ji fi,.inr ⟨Pn,hfl,?_⟩⟩
   rw[eo] at H ⊢
   refine zu (fun x hx=>(xj _ x (by rw[eo]; exact hx)).symm) (he' _ _) (zq (hpp _ _).symm) H fun t o _ _ k=>.inl ⟨by rw[oz,gi]; exact hgj,vY (iJ A.ij fj),.inl ⟨LJ,(bF hqj).2 ?_⟩⟩
   have hev: ∀ x∈j.op.xs,s.ev x=({(s.put i.d t) with hp:=gu s.hp ni o}:AS).ev x:=fun x hx=>by rw[xi t x hx]; cases x<;>rfl
   obtain⟨r1,r2⟩:=AX hqj hev (Xm h0) hq
   refine⟨r1,nmj,?_⟩
   rw[r2,bT]
   rw[hpp,pc,bT,bT] at k
   exact k
  ·rw[gj] at hgi
   refine .inr ⟨hgi,.inl ⟨by rw[gi]; exact hgj,iJ A.ij fj,.inl ⟨LJ,(bF hqj).2 ?_⟩⟩⟩
   obtain⟨r1,r2⟩:=AX hqj (xi T.un) (he _ _) hq
   refine⟨r1,nmj,?_⟩
   rw[r2,<- pc]; exact H
theorem Zo{j i:aN}{nj ni:Nat}(hap:vF j i=true)(LJ:j.ar=true)(zO:i.ad=false)(Pn:i.ar=false)(hi:(bH i.op=true/\vC i.op=true)\/xB i.op=true)(hne:nj≠ni){K:AS->Prop}{s:AS}
  (hfr:xB i.op=true->s.hp ni=none/\ ∀ q ob,s.hp q=some ob->T.aO (· ≠ni) ob.l) (H:Io P true nj j (Io P true ni i K) s):Io P true ni i (Io P true nj j K) s:=by
 have A:=sF hap
 have gj: ∀ t,gv i.g (s.put j.d t)=gv i.g s:=fun t=>wP A.ji
 have gi: ∀ t,gv j.g (s.put i.d t)=gv j.g s:=fun t=>wP A.ij
 have xj: ∀ t,∀ x∈i.op.xs,s.ev x=(s.put j.d t).ev x:=fun t=>fK A.ji
 have xi: ∀ t,∀ x∈j.op.xs,s.ev x=(s.put i.d t).ev x:=fun t=>fK A.ij
 have pc: ∀ t u,(s.put j.d t).put i.d u=(s.put i.d u).put j.d t:=fun t u=>put_comm A.dd
 have hpp: ∀ d t,(s.put d t).hp=s.hp:=fun d t=>ny s d t
 have he': ∀ d t,vN (s.put d t).hp s.hp:=fun d t=>by rw[hpp]; exact fun _ _ h=>h
 have he: ∀ d t,vN s.hp (s.put d t).hp:=fun d t=>by rw[hpp]; exact fun _ _ h=>h
 have nmi: ∀ {p:Prop},i.ad=true->p:=fun e=>by rw[zO] at e; cases e
 have ri: ∀ {K s},opR P true ni i K s->lu P (i.dr true) ni i.d i.op (mkK i s K) s:=by
  rintro K s (⟨_,h⟩|⟨h,_⟩)
  ·exact h
  ·rw[Pn] at h; cases h
 rcases H with ⟨hgj,fj,H⟩|⟨hgj,H⟩
 rotate_left
 ·rcases H with ⟨hgi,fi,H⟩|⟨hgi,H⟩
  ·rw[gj] at hgi
   have H:=ri H
   refine .inl ⟨hgi,iO A.ji fi,.inl ⟨Pn,?_⟩⟩
   rcases hi with ⟨hqi,_⟩|hai
   ·rw[bF hqi] at H
    obtain⟨r1,r2⟩:=AX hqi (fun x hx=>(xj T.un x hx).symm) (he' _ _) H.1
    refine(bF hqi).2 ⟨r1,nmi,.inr ⟨by rw[gi]; exact hgj,?_⟩⟩
    rw[<- pc,r2]; exact H.2.2
   ·obtain⟨g1,g2⟩:=LH hai H
    refine g1 s (fun x hx=>(xj _ x hx).symm) _ ⟨nmi,.inr ⟨by rw[oz,gi]; exact hgj,?_⟩⟩
    have g2:=g2.2
    rw[hpp,pc,bT,bT] at g2
    rw[bT]; exact g2
  ·rw[gj] at hgi
   refine .inr ⟨hgi,.inr ⟨by rw[gi]; exact hgj,?_⟩⟩
   rw[<- pc]; exact H
 ·rcases H with ⟨h,_⟩|⟨_,acZ,H⟩
  ·rw[LJ] at h; cases h
  obtain⟨f,xs,eo⟩:=Dv H
  have xi': ∀ t,∀ x∈xs,s.ev x=(s.put i.d t).ev x:=fun t x hx=>xi t x (by rw[eo]; exact hx)
  have H':=H
  rw[eo] at H'
  obtain⟨t0,o0,_,_,_,hG⟩:=H'
  rcases hG with ⟨hgi,fi,hG⟩|⟨hgi,hG⟩
  ·rw[oz,gj] at hgi
   have hG:=ri hG
   have fi0:iV i s:=by
    have h:=vY (h:=s.hp) fi
    have e:({({(s.put j.d t0) with hp:=gu s.hp nj o0}:AS) with hp:=s.hp}:AS)=s.put j.d t0:=oN rfl
    rw[e] at h
    exact iO A.ji h
   refine .inl ⟨hgi,fi0,.inl ⟨Pn,?_⟩⟩
   have key: ∀ {s1:AS},(∀ x∈xs,s.ev x=s1.ev x)->vN s.hp s1.hp->(∀ i ob,s.hp i=some ob->T.aO (fun j=>(s1.hp j).isSome=true->(s.hp j).isSome=true) ob.l)->gv j.g s1=some true->iV j s1 ->
     (∀ t o,lu P (i.dr true) ni i.d i.op (mkK i {(s.put j.d t) with hp:=gu s.hp nj o} K) {(s.put j.d t) with hp:=gu s.hp nj o}->K {(s1.put j.d t) with hp:=gu s1.hp nj o})->Io P true nj j K s1:=by
    intro s1 a b b' c d e
    refine .inl ⟨c,d,.inr ⟨LJ,acZ,?_⟩⟩
    rw[eo] at H ⊢
    refine zu a b b' H fun t o _ _ k=>?_
    rcases k with ⟨_,_,k⟩|⟨k,_⟩
    ·exact e t o (ri k)
    ·rw[oz,gj,hgi] at k; cases k
   rcases hi with ⟨hqi,YG⟩|hai
   ·rw[bF hqi] at hG
    have hev: ∀ t o,∀ x∈i.op.xs,({(s.put j.d t) with hp:=gu s.hp nj o}:AS).ev x=s.ev x:=fun t o x hx=>by rw[xj t x hx]; cases x<;>rfl
    obtain⟨q1,_⟩:=Qv YG (hev t0 o0) hG.1
    refine(bF hqi).2 ⟨q1,nmi,key (xi' _) (he _ _) (zq (hpp _ _)) (by rw[gi]; exact hgj) (iJ A.ij fj) fun t o k=>?_⟩
    rw[bF hqi] at k
    obtain⟨_,q2⟩:=Qv YG (hev t o) k.1
    have k:=k.2.2
    rw[<- q2,bT,put_comm A.dd] at k
    rw[hpp,bT,bT]; exact k
   ·obtain⟨g1,_⟩:=LH hai hG
    have hob: ∀ t o,nK ({(s.put j.d t) with hp:=gu s.hp nj o}:AS) i.op=nK s i.op:=fun t o=>(zo fun x hx=>by rw[xj t x hx]; cases x<;>rfl).symm
    have h0:=(hfr hai).1
    refine g1 s (fun x hx=>by rw[xj t0 x hx]; cases x<;>rfl) _ ⟨nmi,?_⟩
    rw[hob]
    refine key (fun x hx=>by rw[xi' (Dp ni i.op) x hx]; cases x<;>rfl) (LG h0) (fun q oq hq=>T.ay (fun m hm hs=>by simpa [upd,hm] using hs) _ ((hfr hai).2 q oq hq)) (by rw[oz,gi]; exact hgj) (vY (iJ A.ij fj)) fun t o k=>?_
    have k:=((LH hai k).2).2
    rw[hob] at k
    have e:({(({(s.put i.d (Dp ni i.op)) with hp:=upd s.hp ni (some (nK s i.op))}:AS).put j.d t) with hp:=gu (upd s.hp ni (some (nK s i.op))) nj o}:AS) =
      {(({(s.put j.d t) with hp:=gu s.hp nj o}:AS).put i.d (Dp ni i.op)) with hp:=upd (gu s.hp nj o) ni (some (nK s i.op))}:=by
     rw[UD hne,bT,bT,bT]
     show _=AS.put ({(s.put j.d t) with hp:=upd (gu s.hp nj o) ni (some (nK s i.op))}:AS) i.d (Dp ni i.op)
     rw[bT,put_comm A.dd]
    rw[e]; exact k
  ·rw[oz,gj] at hgi
   refine .inr ⟨hgi,.inl ⟨by rw[gi]; exact hgj,iJ A.ij fj,.inr ⟨LJ,acZ,?_⟩⟩⟩
   rw[eo] at H ⊢
   refine zu (xi' _) (he _ _) (zq (hpp _ _)) H fun t o _ _ k=>?_
   rcases k with ⟨k,_⟩|⟨_,k⟩
   ·rw[oz,gj,hgi] at k; cases k
   ·rw[bT,put_comm A.dd] at k
    rw[hpp,bT,bT]; exact k
theorem Xn{j i:aN}{nj ni:Nat}(h:BH j i=true){K:AS->Prop}{s:AS}(hne:nj≠ni)(hni:s.nx<=ni)(hfr:(bH i.op=true/\vC i.op=true)\/(s.hp ni=none/\ ∀ q ob,s.hp q=some ob->T.aO (· ≠ni) ob.l))
  (H:Io P true nj j (Io P true ni i K) s):Io P true ni i (Io P true nj j K) s:=by
 unfold BH at h
 cases LJ:j.ar with
 |true =>
  rw[LJ] at h
  simp only[cond_true,Bool.and_eq_true,Bool.or_eq_true,Bool.not_eq_true'] at h
  refine Zo h.1.1.1 LJ h.1.1.2 h.1.2 h.2 hne (fun ha=>?_) H
  rcases hfr with ⟨hq,_⟩|hf
  ·cases hop:i.op<;>rw[hop] at ha hq<;>first|(simp[xB] at ha; done)|(simp[bH] at hq)
  ·exact hf
 |false =>
 rw[LJ] at h
 simp only[cond_false] at h
 cases Pn:i.ar with
 |true =>
  rw[Pn] at h
  simp only[cond_true,Bool.and_eq_true,Bool.not_eq_true'] at h
  refine Zn h.1.1 h.1.2 h.2 LJ Pn (fun _ hq=>?_) H
  rcases hfr with ⟨hq',_⟩|hf
  ·rw[hq] at hq'; cases hq'
  ·exact hf.1
 |false =>
 rw[Pn] at h
 simp only[cond_false] at h
 refine(xE Pn).2 (Oh (fun s' _ _ h=>(xE LJ).2 h) ?_)
 replace H:Qw P true nj j (Qw P true ni i K) s:=Oh (fun s' _ _ h=>(xE Pn).1 h) ((xE LJ).1 H)
 cases hmj:j.ad with
 |true =>
  rw[hmj] at h
  simp only[cond_true,Bool.and_eq_true,Bool.not_eq_true'] at h
  exact Xk h.1.1.1.1 h.1.1.1.2 h.1.1.2 h.1.2 h.2 H
 |false =>
  rw[hmj] at h
  cases zO:i.ad with
  |true =>
   rw[zO] at h
   simp only[cond_true,cond_false,Bool.and_eq_true] at h
   exact swap_mk h.1.1 h.1.2 h.2 hmj zO H
  |false =>
   rw[zO] at h
   simp only[cond_false] at h
   have H0:Il P true nj j (Il P true ni i K) s:=ED (fun s' _ _ h=>(xC zO).1 h) ((xC hmj).1 H)
   exact(xC zO).2 (ED (fun s' _ _ h=>(xC hmj).2 h) (UC h hne hni hfr H0))
end
section
variable {P:Program} {nd:Bool}
def J5(ni:Nat)(s:AS):Prop:=s.hp ni=none/\ ∀ q ob,s.hp q=some ob->T.aO (· ≠ni) ob.l
theorem J5.E9{ni:Nat}{s s':AS}(h:J5 ni s)(e:s'.hp=s.hp):J5 ni s':=by unfold J5; rw[e]; exact h
def Ir(i:aN)(ni:Nat)(s:AS):Prop:=(bH i.op=true/\vC i.op=true)\/J5 ni s
theorem Zp{nj ni:Nat}{j i:aN}(hc:Du j i=true)(hne:nj≠ni){K K':AS->Prop}{s:AS}(hf:Ir i ni s)(hK: ∀ s',s'.nx=s.nx->Ir i ni s'->K s'->K' s')(h:Il P true nj j K s):Il P true nj j K' s:=by
 by_cases hq:bH i.op=true/\vC i.op=true
 ·exact ED (fun s' e _ k=>hK s' e (.inl hq) k) h
 have hnq:bH i.op=true-> ¬ vC i.op=true:=fun a b=>hq ⟨a,b⟩
 replace hf:=hf.resolve_left hq
 replace hK: ∀ s',s'.nx=s.nx->J5 ni s'->K s'->K' s':=fun s' e f k=>hK s' e (.inr f) k
 rcases h with ⟨h1,h0,h2⟩|⟨h1,h2⟩
 ·refine .inl ⟨h1,h0,?_⟩
  simp only[Du,Bool.and_eq_true,Bool.or_eq_true] at hc
  have hcall:nC j.op=true->j.fl=false->lu P (j.dr true) nj j.d j.op K' s:=by
   intro ho hfl
   have hjd:j.dr true=true:=by
    unfold aN.dr; rw[hfl]; cases j.op<;>rfl
   rw[zn ho] at h2
   obtain⟨f,ts,g1,g2⟩:=h2
   exact g1 s (fun _ _=>rfl) _ (aP.mono g2 fun t h' ⟨p1,p2⟩=>⟨p1,hK _ (dV _ _ _) (hf.E9 (p1 hjd).1) p2⟩)
  rcases hc.2 with ((⟨ho,_⟩|⟨⟨ho,hqi⟩,hfl⟩)|⟨⟨ho,_⟩,hfl⟩)|⟨ho,_⟩
  ·rw[bF ho] at h2 ⊢; exact⟨h2.1,hK _ (dV _ _ _) (hf.E9 (ny _ _ _)) h2.2⟩
  ·cases hjf:j.fl with
   |false=>exact hcall ho hjf
   |true =>
    have YG:vC i.op=true:=by
     rcases hfl with h|h
     ·rw[hjf] at h; cases h
     ·exact h
    exact absurd YG (hnq hqi)
  ·exact hcall ho (by simpa using hfl)
  ·have hob:T.aO (· ≠ni) (nK s j.op).l:=by
    cases hop:j.op with
    |al ty k z =>
     rw[hop] at h2
     obtain⟨g1,_⟩:=h2
     simp only[Bool.and_eq_true] at g1
     simp only[nK,T.aO]
     exact⟨T.bG (fun _ hf=>hf.elim) _ (fZ g1.1.2),trivial⟩
    |make ty k bytes z x y =>
     rw[hop] at h2
     simp only[lu] at h2
     split at h2
     ·obtain⟨g1,_⟩:=h2
      simp only[Bool.and_eq_true] at g1
      simp only[nK]
      exact bQ.2 fun t ht=>by rw[List.eq_of_mem_replicate ht]; exact T.bG (fun _ hf=>hf.elim) _ (fZ g1.1.2)
     ·exact h2.elim
    |_=>rw[hop] at ho; simp[xB] at ho
   rw[BG (Dt ho)] at h2
   obtain⟨g1,g2⟩:=h2
   refine g1 s (fun _ _=>rfl) (fun _ _ h=>h) _ (hK _ (dV _ _ _) ⟨?_,fun q ob hq=>?_⟩ g2)
   ·show upd s.hp nj _ ni=none
    simp only[upd,if_neg (fun e:ni=nj=>hne e.symm)]; exact hf.1
   ·have hq':upd s.hp nj (some (nK s j.op)) q=some ob:=hq
    by_cases hqj:q=nj
    ·subst hqj; simp only[upd,if_true,Option.some.injEq] at hq'; subst hq'; exact hob
    ·simp only[upd,if_neg hqj] at hq'; exact hf.2 q ob hq'
 ·exact .inr ⟨h1,hK _ (dV _ _ _) (hf.E9 (ny _ _ _)) h2⟩
theorem abu{nj ni:Nat}{j i:aN}(hc:BH j i=true)(hne:nj≠ni){K K':AS->Prop}{s:AS}(hf:Ir i ni s)(hK: ∀ s',s'.nx=s.nx->Ir i ni s'->K s'->K' s')(h:Io P true nj j K s):Io P true nj j K' s:=by
 by_cases hq:bH i.op=true/\vC i.op=true
 ·exact Dw (fun s' e _ k=>hK s' e (.inl hq) k) h
 unfold BH at hc
 cases LJ:j.ar with
 |true =>
  replace hf:=hf.resolve_left hq
  rcases h with ⟨h1,h0,⟨h2,_⟩|⟨h2,h3,h4⟩⟩|⟨h1,h2⟩
  ·rw[LJ] at h2; cases h2
  ·refine .inl ⟨h1,h0,.inr ⟨h2,h3,?_⟩⟩
   obtain⟨f,xs,eo⟩:=Dv h4
   rw[eo] at h4 ⊢
   refine zu (fun _ _=>rfl) (fun _ _ h=>h) (zq rfl) h4 fun t o _ ho k=>hK _ (dV _ _ _) (.inr ⟨?_,fun q ob hq=>?_⟩) k
   ·show gu s.hp nj o ni=none
    rw[Iq (fun e=>hne e.symm)]; exact hf.1
   ·have hq':gu s.hp nj o q=some ob:=hq
    by_cases hqj:q=nj
    ·subst hqj
     cases o with
     |none=>exact hf.2 q ob hq'
     |some o' =>
      simp only[gu,upd,if_true,Option.some.injEq] at hq'; subst hq'
      exact T.ay (fun _ hf=>hf.elim) _ (cZ (ho _ rfl))
    ·rw[Iq hqj] at hq'; exact hf.2 q ob hq'
  ·exact .inr ⟨h1,hK _ (dV _ _ _) (.inr (hf.E9 (ny _ _ _))) h2⟩
 |false =>
 rw[LJ] at hc
 simp only[cond_false] at hc
 refine(xE LJ).2 ?_
 replace h:=(xE LJ).1 h
 cases Pn:i.ar with
 |true =>
  rw[Pn] at hc
  simp only[cond_true,Bool.and_eq_true,Bool.not_eq_true'] at hc
  replace hf:=hf.resolve_left hq
  rcases h with ⟨h1,h0,h2⟩|⟨h1,h2⟩
  ·refine .inl ⟨h1,h0,?_⟩
   rw[bF hc.1.2] at h2 ⊢
   exact⟨h2.1,h2.2.1,hK _ (dV _ _ _) (.inr (hf.E9 (ny _ _ _))) h2.2.2⟩
  ·exact .inr ⟨h1,hK _ (dV _ _ _) (.inr (hf.E9 (ny _ _ _))) h2⟩
 |false =>
 rw[Pn] at hc
 simp only[cond_false] at hc
 cases hmj:j.ad with
 |true =>
  rw[hmj] at hc
  simp only[cond_true,Bool.and_eq_true,Bool.not_eq_true'] at hc
  exact absurd ⟨hc.1.1.2,hc.1.2⟩ hq
 |false =>
  rw[hmj] at hc
  refine(xC hmj).2 ?_
  replace h:=(xC hmj).1 h
  cases zO:i.ad with
  |true =>
   rw[zO] at hc
   simp only[cond_true,cond_false,Bool.and_eq_true] at hc
   replace hf:=hf.resolve_left hq
   rcases h with ⟨h1,h0,h2⟩|⟨h1,h2⟩
   ·refine .inl ⟨h1,h0,?_⟩
    rw[bF hc.1.2] at h2 ⊢
    exact⟨h2.1,hK _ (dV _ _ _) (.inr (hf.E9 (ny _ _ _))) h2.2⟩
   ·exact .inr ⟨h1,hK _ (dV _ _ _) (.inr (hf.E9 (ny _ _ _))) h2⟩
  |false =>
   rw[zO] at hc
   simp only[cond_false] at hc
   exact Zp hc hne hf hK h
def YH(P:Program)(dr:Bool)(nx:Nat)(K:AS->Prop):List (aN×Nat)->AS->Prop
 |[],s=>K s
 |(o,i)::r,s=>Io P dr (nx+i) o (YH P dr nx K r) s
theorem Xo{n:Nat}{d:Option Nat}{op:mO}{K:AS->Prop}{s:AS}: ¬ YF P true n d op K s:=by
 intro h; cases op<;>first|exact h.elim|exact absurd h.1 (by decide)
theorem abv{m nx pn:Nat}{K:AS->Prop}: ∀ {l:List aN} {i:Nat} {s:AS},s.nx=nx->s.pin=pn->qP P true m K l i s->YH P true nx (fun s=>s.pin=pn/\K {s with nx:=nx+m}) (l.zipIdx i) s:=by
 intro l
 induction l with
 |nil=>intro i s hs hp h; subst hs; exact⟨hp,h⟩
 |cons o r ih =>
  intro i s hs hp h
  subst hs hp
  simp only[qP,BF] at h
  simp only[List.zipIdx_cons,YH]
  rcases h with ⟨h1,h0,h2|h2⟩|⟨h1,h2⟩
  ·exact Dw (fun s' hs' hp' hK=>ih hs' hp' hK) (.inl ⟨h1,h0,h2⟩)
  ·exact absurd h2 Xo
  ·exact .inr ⟨h1,ih (dV _ _ _) (fM _ _ _) h2⟩
theorem Xp{nx i:Nat}{o:aN}{K:AS->Prop}{post:List (aN×Nat)}: ∀ {pre:List (aN×Nat)} {s:AS},(∀ p∈pre,BH p.1 o=true/\p.2≠i)->s.nx=nx->Ir o (nx+i) s ->
  YH P true nx K (pre++(o,i)::post) s->Io P true (nx+i) o (YH P true nx K (pre++post)) s:=by
 intro pre
 induction pre with
 |nil=>intro s _ _ _ h; exact h
 |cons p pre ih =>
  intro s hp hnx hf h
  obtain⟨oj,j⟩:=p
  obtain⟨hc,hji⟩:=hp (oj,j) (by simp)
  simp only[List.cons_append,YH] at h
  refine Xn hc (by omega) (by omega) hf (abu hc (by omega) hf (fun s' abw hf' hK=>?_) h)
  exact ih (fun p hp'=>hp p (by simp[hp'])) (by rw[abw,hnx]) hf' hK
def J6(ops:Array Oper):Option (Nat×Bool)->Option (Option (Nat×Bool))
 |none=>some none
 |some (j,want)=>match (ops[j]?).bind (·.dst) with
  |some d=>some (some (d,want))
  |none=>none
def ac0:mO->Bool
 | .st .. =>true
 | .NQ .. =>true
 |_=>false
def oC(P:Program)(nd:Bool)(ops:Array Oper)(o:Oper):Option aN :=
 match qp P nd o.op,J6 ops o.guard with
 |some op,some g=>if ac0 op&&o.dst.isSome then none else some {d:=o.dst,op:=op,g:=g}
 |none,some g=>bif nd then some {d:=o.dst,op:=.bot,g:=g} else none
 |_,_=>none
def qw(P:Program)(nd:Bool)(ops:Array Oper):List Oper->Option (List aN)
 |[]=>some []
 |o::r=>match oC P nd ops o,qw P nd ops r with
  |some o',some r'=>some (o'::r')
  |_,_=>none
theorem Ad{F:Fr P}{M:Nat->Prop}{E:Env}{s:AS}{a:Act}(R:Rel F M E s a){ops:Array Oper}{o:Oper}{g:Option (Nat×Bool)}(hg:J6 ops o.guard=some g){b:Bool}(h:gv g s=some b) :
  Region.wanted o (yielded ops a.tmps)=b:=by
 unfold J6 at hg
 unfold Region.wanted
 split at hg
 ·rename_i h0; cases hg; rw[h0]; simp only[gv,Option.some.injEq] at h; exact h
 ·rename_i j want h0
  rw[h0]
  split at hg
  ·rename_i d hd
   cases hg
   simp only[gv] at h
   simp only[yielded,hd,Option.bind_some]
   have hr:=uU R.fr d
   have hlen:=nJ R.fr
   simp only[Array.length_toList] at hlen
   by_cases hlt:d<s.fr.length
   ·have e1:s.fr.getD d .any=s.fr.getD d T.un:=by simp[List.getD_eq_getElem?_getD,hlt]
    have hlt':d<a.tmps.size:=by rw[hlen]; exact hlt
    have e2:a.tmps[d]? =some (a.tmps.toList.getD d undef):=by
     rw[List.getD_eq_getElem?_getD,Array.getElem?_toList,Array.getElem?_eq_getElem hlt']; rfl
    rw[e1] at h
    rw[e2]
    generalize a.tmps.toList.getD d undef=v at hr ⊢
    split at h
    ·rename_i b' e3
     rw[e3,aK] at hr
     subst hr
     simp only[Option.some.injEq] at h
     subst h
     simp
    ·rename_i vs e3
     rw[e3,aK] at hr
     subst hr
     simp only[Option.some.injEq] at h
     subst h
     rfl
    ·cases h
   ·have:s.fr.getD d .any= .any:=by simp[List.getD_eq_getElem?_getD,show ¬ d<s.fr.length from hlt]
    rw[this] at h; cases h
  ·cases hg
theorem Rel.nx{F:Fr P}{M:Nat->Prop}{E:Env}{s:AS}{a:Act}(R:Rel F M E s a)(n:Nat):Rel F M E {s with nx:=n} a:=⟨R.hk,R.he,R.fr,R.df,R.mf,R.mh⟩
@[reducible] def wd(r:Option Nat):Fence:= {Fence.wide with round:=r}
theorem Iu{o:Oper}{a:Act}{w:World}{K:Act->World->Prop}{Q:Exit->Act->World->Prop}{r:Option Nat}(hd: ∀ c,o.op≠ .defer c)(h:o.wp P a w K Q):o.wpIn (wd r) 0 P a w K Q:=by
 refine⟨fun _ _=>trivial,?_⟩
 rw[Oper.semAt_eq _ _ _ hd]
 unfold Oper.wp at h
 generalize (execOp a.eval o).run P w=res at h ⊢
 match res,h with
 | .ok (.value v) w',h=>exact h
 | .ok .skip w',h=>exact h
 | .ok (.defer d) w',h=>exact h
 | .ok (.enter f args) w',h=>exact⟨(fun q=>by cases q),callsIn_wide.2 h⟩
 | .ok (.row rw args) w',h=>exact⟨(fun q=>by cases q),fun c cs _=>by
   obtain⟨v,w2,h1,h2⟩:=h c cs
   exact⟨v,w2,h1,stepsIn_wide.2 h2⟩⟩
 | .halt (.panic v) w',h=>exact h
theorem Dx{o:Op}{op:mO}(h:qp P nd o=some op)(c:Call):o≠ .defer c:=by
 rintro rfl
 simp only[qp] at h
 cases h
theorem HY.mono{t:T}{ts:List T}{h:Hp}{n:Nat}{post post':T->Hp->Prop}(H:HY P t ts h n post)(hp: ∀ t h',post t h'->post' t h'):HY P t ts h n post':=by
 obtain⟨⟨t,hh,h1⟩,h2⟩:=H
 refine⟨⟨t,hh,hp _ _ h1⟩,fun F M E v vs a b c d e g i j p q=>?_⟩
 obtain⟨fn,tm,as,bd,y,r⟩:=h2 F M E v vs a b c d e g i j p q
 refine⟨fn,tm,as,bd,y,r.mono ?_⟩
 rintro e w' ⟨v,t,E',r1,r2,r3,r4⟩
 exact⟨v,t,E',r1,r2,hp _ _ r3,r4⟩
theorem UE{dr:Bool}{n:Nat}{d:Option Nat}{x:X}{xs:List X}{K:AS->Prop}{s:AS}(h:YF P dr n d (.jD x xs) K s):YF P dr n d (.jD x xs) (fun s'=>s'.nx=s.nx/\s'.pin=s.pin/\K s') s:=by
 refine⟨h.1,?_⟩
 replace h:=h.2
 split at h
 ·exact⟨h.1,h.2.mono fun t hh q=>⟨dV _ _ _,fM _ _ _,q⟩⟩
 ·exact h.elim
theorem J7{r:Option Nat}{F:Fr P}{M:Nat->Prop}{E:Env}{s:AS}{a:Act}(R:Rel F M E s a){n:Nat}(hn: ¬ M n){ops:Array Oper}{o:Oper}{o':aN}(hc:oC P nd ops o=some o'){dr:Bool}{K:AS->Prop}{Q:Exit->Act->World->Prop}{fl ad ar:Bool}{ne:List Nat}
  (h:Io P dr n {o' with fl:=fl,ne:=ne,ad:=ad,ar:=ar} K s) :
  if Region.wanted o (yielded ops a.tmps) then o.wpIn (wd r) 0 P a E.w (zl F M n E K) Q else zl F M n E K (a.put o.dst undef) E.w:=by
 unfold oC at hc
 split at hc
 ·rename_i op g h1 h2
  split at hc
  ·cases hc
  ·rename_i hst
   cases hc
   rcases h with ⟨hg,_,h⟩|⟨hg,h⟩
   ·rw[Ad R h2 hg,if_pos rfl]
    have h: ∃ dr',lu P dr' n o.dst op K s:=by
     rcases h with ⟨_,h⟩|⟨_,_,h⟩
     ·exact⟨_,jr (fun s' _ _ h=>h.2) h⟩
     ·exact⟨_,Zm h⟩
    obtain⟨dr',h⟩:=h
    refine Iu (Dx h1) (Xe R hn h1 ?_ h)
    rintro(⟨k,x,v,rfl⟩|⟨x,i,v,rfl⟩) <;>
    ·simp only[ac0,Bool.true_and] at hst
     cases hd:o.dst with
     |none=>rfl
     |some d=>simp[hd] at hst
   ·rw[Ad R h2 hg,if_neg (by simp)]
    exact zl.quiet R (by simp[T.ids]) (by rw[aK]; rfl) h
 ·rename_i g h1 h2
  cases hnd:nd with
  |false=>rw[hnd] at hc; cases hc
  |true =>
   rw[hnd] at hc
   cases hc
   rcases h with ⟨hg,_,⟨_,h⟩|⟨_,_,h⟩⟩|⟨hg,h⟩
   ·exact h.elim
   ·exact h.elim
   ·rw[Ad R h2 hg,if_neg (by simp)]
    exact zl.quiet R (by simp[T.ids]) (by rw[aK]; rfl) h
 ·cases hc
theorem Jf{ops:Array Oper}{o:Oper}{o':aN}(hc:oC P nd ops o=some o'){f:FuncId}{xs:List X}(h:o'.op= .call f xs):qp P nd o.op=some o'.op/\o'.d=o.dst/\J6 ops o.guard=some o'.g:=by
 unfold oC at hc
 split at hc
 ·rename_i op g h1 h2
  split at hc
  ·cases hc
  ·cases hc; exact⟨h1,rfl,h2⟩
 ·cases nd<;>cases hc
  cases h
 ·cases hc
theorem Iw{ops:Array Oper}{o:Oper}{o':aN}(hc:oC P nd ops o=some o'){f:X}{xs:List X}(h:o'.op= .jD f xs):qp P nd o.op=some o'.op/\o'.d=o.dst/\J6 ops o.guard=some o'.g:=by
 unfold oC at hc
 split at hc
 ·rename_i op g h1 h2
  split at hc
  ·cases hc
  ·cases hc; exact⟨h1,rfl,h2⟩
 ·cases nd<;>cases hc
  cases h
 ·cases hc
theorem QB{r0:Option Nat}{F:Fr P}{ops:Array Oper}{dr:Bool}{n0 m pn:Nat}{K:AS->Prop}{Q:Exit->Act->World->Prop}{E₀:Env}
  (hQ: ∀ E s a i,n0<=s.nx->s.pin=pn->K {s with nx:=s.nx+m}->Rel F (· <s.nx+i) E s a->i<=ops.size->Ext F E₀ E->Same E₀ E (· <n0)->Q .normal a E.w): ∀ {l:List Oper} {l':List aN} {i:Nat} {E:Env} {s:AS} {a:Act},qw P nd ops l=some l'->i+l.length<=ops.size->n0<=s.nx->s.pin=pn->Rel F (· <s.nx+i) E s a ->
   Ext F E₀ E->Same E₀ E (· <n0)->qP P dr m K l' i s->wpListIn (wd r0) 0 P ops Q l a E.w:=by
 intro l
 induction l with
 |nil =>
  intro l' i E s a hc hlen hn hp R hext hsm h
  cases hc
  exact hQ E s a i hn hp h R (by simpa using hlen) hext hsm
 |cons o r ih =>
  intro l' i E s a hc hlen hn hp R hext hsm h
  simp only[qw] at hc
  split at hc
  ·rename_i o' r' h1 h2
   cases hc
   simp only[qP,BF] at h
   simp only[List.length_cons] at hlen
   have hnext: ∀ a' w',zl F (· <s.nx+i) (s.nx+i) E (fun s'=>s'.nx=s.nx/\s'.pin=s.pin/\qP P dr m K r' (i+1) s') a' w'->wpListIn (wd r0) 0 P ops Q r a' w':=by
    rintro a' w' ⟨E',s',rfl,⟨e1,e2,hK⟩,R',Dy,Xq⟩
    exact ih h2 (by omega) (by omega) (by rw[e2]; exact hp) (by rw[e1]; exact R'.weaken fun j hj=>by omega) (hext.trans Dy) (hsm.trans Xq fun j hj=>by omega) hK
   have abx: ∀ a' w',acX F (· <s.nx+i) (s.nx+i) E s (qP P dr m K r' (i+1)) a' w'->wpListIn (wd r0) 0 P ops Q r a' w':=by
    rintro a' w' ⟨E',s',k,rfl,hK,e1,e2,R',Dy,Xq⟩
    exact ih h2 (by omega) (by omega) (by rw[e2]; exact hp) (by rw[e1]; exact R'.weaken fun j hj=>by omega) (hext.trans Dy) (hsm.trans Xq fun j hj=>by omega) hK
   have one:Io P dr (s.nx+i) o' (fun s'=>s'.nx=s.nx/\s'.pin=s.pin/\qP P dr m K r' (i+1) s') s->wpListIn (wd r0) 0 P ops Q (o::r) a E.w:=by
    intro h
    have:=J7 (r:=r0) (Q:=Q) (fl:=o'.fl) (ne:=o'.ne) R (n:=s.nx+i) (by omega) h1 h
    unfold wpListIn
    split
    ·rename_i hw
     rw[if_pos hw] at this
     exact Oper.wpIn_mono hnext this
    ·rename_i hw
     rw[if_neg hw] at this
     exact⟨fun _ _=>trivial,hnext _ _ this⟩
   rcases h with ⟨hg,h0,h3|h3⟩|⟨hg,h3⟩
   ·exact one (Dw (fun s' a b c=>⟨a,b,c⟩) (.inl ⟨hg,h0,h3⟩))
   ·have hcall:(∃ f xs,o'.op= .call f xs)\/ ∃ x xs,o'.op= .jD x xs:=by
     cases hop:o'.op<;>rw[hop] at h3<;>first|exact h3.elim|exact .inl ⟨_,_,rfl⟩|exact .inr ⟨_,_,rfl⟩
    have ad3:qp P nd o.op=some o'.op/\o'.d=o.dst/\J6 ops o.guard=some o'.g:=by
     rcases hcall with ⟨f,xs,hop⟩|⟨f,xs,hop⟩
     ·exact Jf h1 hop
     ·exact Iw h1 hop
    obtain⟨c1,c2,c3⟩:=ad3
    rw[c2] at h3
    have hw:Region.wanted o (yielded ops a.tmps)=true:=Ad R c3 hg
    unfold wpListIn
    rw[if_pos hw]
    rcases hcall with ⟨f,xs,hop⟩|⟨f,xs,hop⟩
    ·exact Oper.wpIn_mono abx (Iu (Dx c1) (Uy R (fun _ h=>h) (fun x xs q=>by rw[hop] at q; cases q) c1 h3))
    ·rw[hop] at h3 c1
     exact Oper.wpIn_mono hnext (Ux R (by omega) c1 (UE h3) r0)
   ·exact one (.inr ⟨hg,dV _ _ _,fM _ _ _,h3⟩)
  ·cases hc
def edges(o:Oper):List Nat:=(o.after.toList.filter (Region.binds .any)).map (·.on)
def UF:List Oper->List Nat->List Nat
 |[],acc=>acc
 |o::r,acc=>UF r (acc++[(edges o).foldl (fun s j=>s ||| (2 ^ j ||| acc.getD j 0)) 0])
theorem UG(acc:List Nat): ∀ (l:List Nat) (s j:Nat),(l.foldl (fun s j=>s ||| (2 ^ j ||| acc.getD j 0)) s).testBit j=true->s.testBit j=true\/ ∃ e∈l,j=e\/(acc.getD e 0).testBit j=true:=by
 intro l
 induction l with
 |nil=>intro s j h; exact .inl h
 |cons e l ih =>
  intro s j h
  rw[List.foldl_cons] at h
  rcases ih _ _ h with h|⟨e',he',h⟩
  ·simp only[Nat.testBit_or,Bool.or_eq_true,Nat.testBit_two_pow,decide_eq_true_eq] at h
   rcases h with h|h|h
   ·exact .inl h
   ·exact .inr ⟨e,by simp,.inl h.symm⟩
   ·exact .inr ⟨e,by simp,.inr h⟩
  ·exact .inr ⟨e',by simp[he'],h⟩
theorem UH(ops:List Oper)(L:Nat->Prop)(hL: ∀ i o,ops[i]? =some o->L i-> ∀ j∈edges o,L j): ∀ (r:List Oper) (acc:List Nat),
  (∀ k,r[k]? =ops[acc.length+k]?)->acc.length+r.length=ops.length->(∀ i o,i<acc.length->ops[i]? =some o->(∀ j∈edges o,L j)-> ∀ j,(acc.getD i 0).testBit j=true->L j) ->
  ∀ i o,ops[i]? =some o->(∀ j∈edges o,L j)-> ∀ j,((UF r acc).getD i 0).testBit j=true->L j:=by
 intro r
 induction r with
 |nil =>
  intro acc _ hlen hacc i o hi
  simp only[UF]
  refine hacc i o ?_ hi
  rw[List.getElem?_eq_some_iff] at hi
  obtain⟨hlt,_⟩:=hi
  simp at hlen; omega
 |cons o r ih =>
  intro acc hr hlen hacc
  simp only[UF]
  refine ih _ (fun k=>?_) (by simp at hlen ⊢; omega) ?_
  ·have:=hr (k+1)
   simp only[List.getElem?_cons_succ] at this
   rw[this]; simp only[List.length_append,List.length_cons,List.length_nil]; congr 1; omega
  ·intro i oi hi hoi he j hj
   rw[List.length_append] at hi
   simp only[List.length_cons,List.length_nil] at hi
   by_cases hlt:i<acc.length
   ·rw[List.getD_eq_getElem?_getD,List.getElem?_append_left hlt,<- List.getD_eq_getElem?_getD] at hj
    exact hacc i oi hlt hoi he j hj
   ·have hi':i=acc.length:=by omega
    subst hi'
    have ho:oi=o:=by
     have:=hr 0
     simp only[List.getElem?_cons_zero,Nat.add_zero] at this
     rw[hoi] at this; simpa using this.symm
    subst ho
    rw[List.getD_eq_getElem?_getD,List.getElem?_append_right (Nat.le_refl _)] at hj
    simp only[Nat.sub_self,List.getElem?_cons_zero,Option.getD_some] at hj
    rcases UG acc _ _ _ hj with h0|⟨e,hmem,rfl|hb⟩
    ·simp at h0
    ·exact he _ hmem
    ·by_cases hel:e<acc.length
     ·cases hoe:ops[e]? with
      |none=>rw[List.getElem?_eq_none_iff] at hoe; simp at hlen; omega
      |some oe=>exact hacc e oe hel hoe (hL e oe hoe (he e hmem)) j hb
     ·have:acc.getD e 0=0:=by simp[List.getD_eq_getElem?_getD,show ¬ e<acc.length from hel]
      rw[this] at hb; simp at hb
def LK(ops:List Oper)(pm:List Nat)(l:List aN):Bool :=
 let an:=UF ops []
 pm.length==ops.length&&l.length==ops.length&&((List.range ops.length).all fun i=>pm.contains i) &&
 (List.range ops.length).all fun q =>
  (match ops[q]? with|some o=>(edges o).all (· <q)|none=>true) &&
  (List.range q).all fun p=> !(pm.getD p 0==pm.getD q 0)&&((an.getD (pm.getD q 0) 0).testBit (pm.getD p 0)||(match l[p]?,l[q]? with|some oj,some oi=>BH oj oi|_,_=>false))
theorem LM{ops:Array Oper}: ∀ {l:List Oper} {l':List aN},qw P nd ops l=some l'-> ∀ {i:Nat} {o:Oper},l[i]? =some o-> ∃ o',l'[i]? =some o'/\oC P nd ops o=some o':=by
 intro l
 induction l with
 |nil=>intro l' _ i o h; simp at h
 |cons x r ih =>
  intro l' hc i o h
  simp only[qw] at hc
  split at hc
  ·rename_i x' r' h1 h2
   cases hc
   cases i with
   |zero=>simp at h; subst h; exact⟨x',by simp,h1⟩
   |succ i=>simpa using ih h2 (by simpa using h)
  ·cases hc
theorem yH{ops:Array Oper}: ∀ {l:List Oper} {l':List aN},qw P nd ops l=some l'->l'.length=l.length:=by
 intro l
 induction l with
 |nil=>intro l' h; cases h; rfl
 |cons x r ih =>
  intro l' hc
  simp only[qw] at hc
  split at hc
  ·rename_i x' r' h1 h2; cases hc; simp[ih h2]
  ·cases hc
def Jg(pm:List Nat)(l:List aN)(listed:Array Bool):List (aN×Nat):=l.zipIdx.filter fun p=> !listed.getD (pm.getD p.2 0) true
theorem UJ{pm:List Nat}{l:List aN}{listed:Array Bool}{i p:Nat}{o:aN}(hl:l[p]? =some o)(hpm:pm.getD p 0=i)(hu: ∀ q,q<l.length->pm.getD q 0=i->q=p)(hi:listed.getD i true=false) :
  ∃ pre post,Jg pm l listed=pre++(o,p)::post/\Jg pm l (listed.setIfInBounds i true)=pre++post/\ ∀ r∈pre,r.2<p/\l[r.2]? =some r.1/\listed.getD (pm.getD r.2 0) true=false:=by
 have hlt:i<listed.size:=by
  rcases Nat.lt_or_ge i listed.size with h|h
  ·exact h
  ·simp[Array.getD_eq_getD_getElem?,Array.getElem?_eq_none h] at hi
 rw[List.getElem?_eq_some_iff] at hl
 obtain⟨hil,hli⟩:=hl
 have hsplit:l.zipIdx=(l.zipIdx.take p)++(o,p)::l.zipIdx.drop (p+1):=by
  have:=List.take_append_drop p l.zipIdx
  rw[List.drop_eq_getElem_cons (by simpa using hil)] at this
  simp only[List.getElem_zipIdx,Nat.zero_add,hli] at this
  exact this.symm
 have hget: ∀ j,(listed.setIfInBounds i true).getD j true=if j=i then true else listed.getD j true:=by
  intro j
  simp only[Array.getD_eq_getD_getElem?]
  by_cases hj:j=i
  ·subst hj; simp[hlt]
  ·rw[Array.getElem?_setIfInBounds_ne (fun e=>hj e.symm),if_neg hj]
 have hmem: ∀ r∈l.zipIdx.take p,r.2<p/\l[r.2]? =some r.1:=by
  intro r hr
  rw[List.mem_take_iff_getElem] at hr
  obtain⟨j,hj,rfl⟩:=hr
  simp only[List.length_zipIdx] at hj
  simp only[List.getElem_zipIdx,Nat.zero_add]
  exact⟨by omega,by rw[List.getElem?_eq_getElem]⟩
 have ac1: ∀ r∈l.zipIdx.drop (p+1),p<r.2/\r.2<l.length:=by
  intro r hr
  rw[List.mem_drop_iff_getElem] at hr
  obtain⟨j,hj,rfl⟩:=hr
  simp only[List.length_zipIdx] at hj
  simp only[List.getElem_zipIdx]; omega
 refine⟨(l.zipIdx.take p).filter fun r=> !listed.getD (pm.getD r.2 0) true,(l.zipIdx.drop (p+1)).filter fun r=> !listed.getD (pm.getD r.2 0) true,?_,?_,fun r hr=>?_⟩
 ·unfold Jg
  rw[hsplit,List.filter_append,List.filter_cons,if_pos (by simp only[hpm,hi]; rfl)]
  rw[<- hsplit]
 ·unfold Jg
  rw[hsplit,List.filter_append,List.filter_cons,if_neg (by rw[hpm,hget]; simp)]
  rw[<- hsplit]
  congr 1
  ·refine List.filter_congr fun r hr=>?_
   have h1:=(hmem r hr).1
   have hne:pm.getD r.2 0≠i:=fun e=>by have:=hu r.2 (by omega) e; omega
   rw[hget,if_neg hne]
  ·refine List.filter_congr fun r hr=>?_
   have h1:=ac1 r hr
   have hne:pm.getD r.2 0≠i:=fun e=>by have:=hu r.2 (by omega) e; omega
   rw[hget,if_neg hne]
 ·rw[List.mem_filter] at hr
  obtain⟨h1,h2⟩:=hmem r hr.1
  exact⟨h1,h2,by simpa using hr.2⟩
theorem Zq{pm:List Nat}{l:List aN}{listed:Array Bool}(h: ∀ p,p<l.length->listed.getD (pm.getD p 0) true=true):Jg pm l listed=[]:=by
 unfold Jg
 rw[List.filter_eq_nil_iff]
 rintro⟨o,i⟩ hp
 have hp:=List.mem_zipIdx hp
 rw[h i (by omega)]
 simp
theorem QC{r0:Option Nat}{F:Fr P}{ops:Array Oper}{pm:List Nat}{l:List aN}(hl: ∀ p o,l[p]? =some o-> ∃ oo o' fl ne ad ar,ops[pm.getD p 0]? =some oo/\oC P nd ops oo=some o'/\o= {o' with fl:=fl,ne:=ne,ad:=ad,ar:=ar})
  (hd:LK ops.toList pm l=true) {nx:Nat} {K:AS->Prop} {Q:Exit->Act->World->Prop} {E₀:Env}
  (hQ: ∀ E s a,K s->Rel F (· <nx+ops.size) E s a->Ext F E₀ E->Same E₀ E (· <nx)->Q .normal a E.w): ∀ (fuel:Nat) (listed:Array Bool) (E:Env) (s:AS) (a:Act),listed.size=ops.size ->
   (∀ i o,ops.toList[i]? =some o->listed.getD i true=true-> ∀ j∈edges o,listed.getD j false=true)->(listed.toList.filter (fun b=> !b)).length<=fuel->s.nx=nx ->
   Rel F (fun j=>j<nx\/ ∃ p,p<ops.size/\listed.getD (pm.getD p 0) true=true/\j=nx+p) E s a->Ext F E₀ E->Same E₀ E (· <nx)->YH P true nx K (Jg pm l listed) s->wpAnyIn (wd r0) 0 P .any ops Q fuel listed a E.w:=by
 simp only[LK,Bool.and_eq_true,beq_iff_eq,List.all_eq_true,List.mem_range,Array.length_toList] at hd
 obtain⟨⟨⟨hpl,hll⟩,hall⟩,Sz⟩:=hd
 have ac2: ∀ i,i<ops.size-> ∀ o,ops.toList[i]? =some o-> ∀ j∈edges o,j<i:=by
  intro i hi o ho j hj
  have h1:=(Sz i hi).1
  rw[ho] at h1; simp only[List.all_eq_true,decide_eq_true_eq] at h1; exact h1 j hj
 have hinj: ∀ p q,p<ops.size->q<ops.size->pm.getD p 0=pm.getD q 0->p=q:=by
  intro p q hp hq e
  rcases Nat.lt_trichotomy p q with h|h|h
  ·have:=((Sz q hq).2 p h).1; rw[e,beq_self_eq_true] at this; cases this
  ·exact h
  ·have:=((Sz p hp).2 q h).1; rw[e,beq_self_eq_true] at this; cases this
 have hpos: ∀ i,i<ops.size-> ∃ p,p<ops.size/\pm.getD p 0=i:=by
  intro i hi
  have:=hall i hi
  simp only[List.contains_iff_mem] at this
  obtain⟨p,hp,rfl⟩:=List.getElem_of_mem this
  exact⟨p,by omega,by simp[List.getD_eq_getElem?_getD,hp]⟩
 have hin: ∀ p,p<ops.size->pm.getD p 0<ops.size:=by
  intro p hp
  have hlp:p<l.length:=by omega
  obtain⟨oo,_,_,_,_,_,h1,_⟩:=hl p l[p] (List.getElem?_eq_getElem hlp)
  exact(Array.getElem?_eq_some_iff.1 h1).1
 have aby: ∀ listed:Array Bool,listed.size=ops.size->Region.ready .any ops listed=[]-> ∀ i,i<ops.size->listed.getD i true=true:=by
  intro listed hsz hr i
  induction i using Nat.strongRecOn with
  |_ i ih =>
   intro hi
   cases hb:listed.getD i true with
   |true=>rfl
   |false =>
    exfalso
    have hoi:ops[i]? =some ops[i]:=by simp[hi]
    have:i∈Region.ready .any ops listed:=by
     rw[mem_ready]
     refine⟨hb,_,hoi,fun e he hbd=>?_⟩
     have hmem:e.on∈edges ops[i]:=List.mem_map.2 ⟨e,List.mem_filter.2 ⟨by simpa using he,hbd⟩,rfl⟩
     have hlt:=ac2 i hi ops[i] (by simp) e.on hmem
     have:=ih e.on hlt (by omega)
     have hs:e.on<listed.size:=by omega
     simp only[Array.getD_eq_getD_getElem?,Array.getElem?_eq_getElem hs,Option.getD_some] at this ⊢
     exact this
    rw[hr] at this
    cases this
 intro fuel
 have hdone: ∀ (listed:Array Bool) (E:Env) (s:AS) (a:Act),(∀ i,i<ops.size->listed.getD i true=true)->Rel F (fun j=>j<nx\/ ∃ p,p<ops.size/\listed.getD (pm.getD p 0) true=true/\j=nx+p) E s a->Ext F E₀ E->Same E₀ E (· <nx) ->
   YH P true nx K (Jg pm l listed) s->Q .normal a E.w:=by
  intro listed E s a hall R hext hsm h
  rw[Zq (fun p hp=>hall _ (hin p (by omega)))] at h
  exact hQ E s a h (R.weaken fun j hj=>by rcases hj with hj|⟨i,hi,_,rfl⟩<;>omega) hext hsm
 induction fuel with
 |zero =>
  intro listed E s a hsz hcl hf hnx R hext hsm h
  have hall: ∀ i,i<ops.size->listed.getD i true=true:=by
   intro i hi
   have hn:listed.toList.filter (fun b=> !b)=[]:=List.eq_nil_of_length_eq_zero (by omega)
   rw[List.filter_eq_nil_iff] at hn
   have hs:i<listed.size:=by omega
   have:=hn (listed[i]) (by simp)
   simp only[Array.getD_eq_getD_getElem?,Array.getElem?_eq_getElem hs,Option.getD_some]
   simpa using this
  refine⟨?_,hdone listed E s a hall R hext hsm h⟩
  apply List.eq_nil_iff_forall_not_mem.2
  intro i hi
  rw[mem_ready] at hi
  obtain⟨h1,o,ho,_⟩:=hi
  have:i<ops.size:=(Array.getElem?_eq_some_iff.1 ho).1
  rw[hall i this] at h1; cases h1
 |succ fuel ih =>
  intro listed E s a hsz hcl hf hnx R hext hsm h
  refine⟨fun hr=>hdone listed E s a (aby listed hsz hr) R hext hsm h,fun i hi=>?_⟩
  rw[mem_ready] at hi
  obtain⟨hli,o,ho,ad4⟩:=hi
  have hlt:i<ops.size:=(Array.getElem?_eq_some_iff.1 ho).1
  have ho':ops.toList[i]? =some o:=by simpa using ho
  obtain⟨p,hp,hpi⟩:=hpos i hlt
  have hlp:p<l.length:=by omega
  have hlo:l[p]? =some l[p]:=List.getElem?_eq_getElem hlp
  obtain⟨oo,o',fl,ne,ad,ar,hoo,hco,heq⟩:=hl p l[p] hlo
  rw[hpi,ho] at hoo
  cases hoo
  rw[heq] at hlo
  obtain⟨pre,post,e1,e2,hpre⟩:=UJ hlo hpi (fun q hq e=>hinj q p (by omega) hp (by rw[e,hpi])) hli
  have Xr: ∀ j∈edges o,listed.getD j false=true:=by
   intro j hj
   obtain⟨e,he,rfl⟩:=List.mem_map.1 hj
   rw[List.mem_filter] at he
   exact ad4 e (by simpa using he.1) he.2
  have ad5:=UH ops.toList (fun j=>listed.getD j false=true) (fun i o hi hLi=>hcl i o hi (by
   rcases Nat.lt_or_ge i listed.size with hs|hs
   ·simp only[Array.getD_eq_getD_getElem?,Array.getElem?_eq_getElem hs,Option.getD_some] at hLi ⊢; exact hLi
   ·simp[Array.getD_eq_getD_getElem?,Array.getElem?_eq_none hs])) ops.toList [] (fun k=>by simp) (by simp) (fun i o hi=>by simp at hi) i o ho' Xr
  have hcomm: ∀ r∈pre,BH r.1 {o' with fl:=fl,ne:=ne,ad:=ad,ar:=ar}=true/\r.2≠p:=by
   intro r hr
   obtain⟨h1,h2,h3⟩:=hpre r hr
   refine⟨?_,by omega⟩
   have:=((Sz p hp).2 r.2 h1).2
   simp only[Bool.or_eq_true] at this
   rcases this with hb|hb
   ·exfalso
    rw[hpi] at hb
    have:=ad5 _ hb
    have hs:pm.getD r.2 0<listed.size:=by have:=hin r.2 (by omega); omega
    simp only[Array.getD_eq_getD_getElem?,Array.getElem?_eq_getElem hs,Option.getD_some] at this h3
    rw[this] at h3; cases h3
   ·rw[h2,hlo] at hb; exact hb
  have hMn: ¬ ((nx+p)<nx\/ ∃ q,q<ops.size/\listed.getD (pm.getD q 0) true=true/\nx+p=nx+q):=by
   rintro(h|⟨q,_,hq,he⟩)
   ·omega
   ·have:q=p:=by omega
    subst this; rw[hpi,hli] at hq; cases hq
  rw[e1] at h
  have ac3:=Xp (P:=P) hcomm hnx (.inr ⟨by
   cases hq:s.hp (nx+p) with
   |none=>rfl
   |some ob=>exact absurd (R.mh _ _ hq).1 hMn,fun q ob hq=>T.ay (M':=(· ≠nx+p)) (fun m hm (he:m=nx+p)=>hMn (he▸hm)) _ (R.mh q ob hq).2⟩) h
  have hop:=J7 (r:=r0) (Q:=Q) R hMn hco (Dw (K':=fun s'=>s'.nx=nx/\YH P true nx K (pre++post) s') (fun s' h1 _ h2=>⟨h1.trans hnx,h2⟩) ac3)
  have hnext: ∀ a' w',zl F (fun j=>j<nx\/ ∃ q,q<ops.size/\listed.getD (pm.getD q 0) true=true/\j=nx+q) (nx+p) E (fun s'=>s'.nx=nx/\YH P true nx K (pre++post) s') a' w'->wpAnyIn (wd r0) 0 P .any ops Q fuel (listed.setIfInBounds i true) a' w':=by
   rintro a' w' ⟨E',s',rfl,⟨abw,hK⟩,R',Dy,Xq⟩
   have hsi:i<listed.size:=by omega
   have hget: ∀ j d,(listed.setIfInBounds i true).getD j d=if j=i then true else listed.getD j d:=by
    intro j d
    simp only[Array.getD_eq_getD_getElem?]
    by_cases hj:j=i
    ·subst hj; simp[hsi]
    ·rw[Array.getElem?_setIfInBounds_ne (fun e=>hj e.symm),if_neg hj]
   refine ih _ E' s' a' (by simpa using hsz) (fun q oq hq hLq j hj=>?_) ?_ abw (R'.weaken fun j hj=>?_) (hext.trans Dy) (hsm.trans Xq fun j hj=>.inl hj) (by rw[e2]; exact hK)
   ·rw[hget] at hLq ⊢
    split
    ·rfl
    ·by_cases hqi:q=i
     ·subst hqi; rw[ho'] at hq; cases hq; exact Xr j hj
     ·rw[if_neg hqi] at hLq; exact hcl q oq hq hLq j hj
   ·have hb:listed.toList[i]'(by simpa using hsi)=false:=by
     simp only[Array.getD_eq_getD_getElem?,Array.getElem?_eq_getElem hsi,Option.getD_some] at hli
     simpa using hli
    have hcount: ∀ (bs:List Bool) (i:Nat) (h:i<bs.length),bs[i]=false->((bs.set i true).filter (fun b=> !b)).length+1=(bs.filter (fun b=> !b)).length:=by
     intro bs
     induction bs with
     |nil=>intro i h; simp at h
     |cons b bs ihb =>
      intro i h hb
      cases i with
      |zero=>simp at hb; subst hb; simp
      |succ i =>
       have:=ihb i (by simpa using h) (by simpa using hb)
       rw[List.set_cons_succ,List.filter_cons,List.filter_cons]
       split
       ·simp only[List.length_cons]; omega
       ·exact this
    have:=hcount listed.toList i (by simpa using hsi) hb
    rw[Array.toList_setIfInBounds]; omega
   ·rcases hj with (hj|⟨q,h1,h2,h3⟩)|hj
    ·exact .inl hj
    ·exact .inr ⟨q,h1,by rw[hget]; split<;>first|rfl|exact h2,h3⟩
    ·exact .inr ⟨p,hp,by rw[hget,if_pos hpi],hj⟩
  unfold wpOpIn
  simp only[ho]
  split
  ·rename_i hw
   rw[if_pos hw] at hop
   exact Oper.wpIn_mono hnext hop
  ·rename_i hw
   rw[if_neg hw] at hop
   exact⟨fun _ _=>trivial,hnext _ _ hop⟩
def prio:mO->Nat
 | .call .. =>1
 | .jD .. =>1
 | .box .. =>2
 | .al .. =>2
 | .make .. =>2
 | .Um .. =>2
 | .app .. =>3
 | .y9 .. =>3
 | .Qk .. =>4
 | .bot=>4
 | .st .. =>4
 | .NQ .. =>4
 |_=>0
def abz(ops:List Oper)(l:List aN)(done:List Nat):Option Nat :=
 let ready:=(List.range ops.length).filter fun i=> !done.contains i&&(match ops[i]? with|some o=>(edges o).all done.contains|none=>false)
 let p (i:Nat):Nat:=match l[i]? with|some o=>prio o.op|none=>9
 ready.foldl (fun best i=>match best with|none=>some i|some b=>if p i<p b then some i else some b) none
def order(ops:List Oper)(l:List aN):Nat->List Nat->List Nat
 |0,done=>done
 |n+1,done=>match abz ops l done with
  |some i=>order ops l n (done++[i])
  |none=>done
def LP(an pm:List Nat)(l:List aN)(o:aN)(p:Nat):Bool×List Nat :=
 let writes (m:Nat):Bool:=l.any fun o=>o.d==some m
 let un (p q:Nat):Bool:= !((an.getD (pm.getD q 0) 0).testBit (pm.getD p 0))
 let isW (o:aN):Bool:=match o.op with| .st .. =>true| .app .. =>true|_=>false
 let isC (o:aN):Bool:=match o.op with| .call .. =>true| .jD .. =>true|_=>false
 let stable (o:aN):Option Nat:=match o.op with| .st _ (.t m) _=>if writes m then none else some m|_=>none
 let isM (o:aN):Bool:=match o.op with| .app _ _ _ (.t m) _=>l.any fun q=>q.d==some m&&(match q.op with| .ld .. =>true|_=>false)|_=>false
 if isW o then
  let b:=l.zipIdx.any fun(oj,j)=>Nat.blt j p&&un j p&&bH oj.op&& !vC oj.op
  bif isM o then(false,bif b then [1000001] else []) else((stable o).isNone&&b,[])
 else if bH o.op&& !vC o.op then
  let ws:=l.zipIdx.filter fun(oi,i)=>Nat.blt p i&&un p i&&isW oi
  (ws.any fun(oi,_)=> !isM oi&&(stable oi).isNone,(ws.filterMap fun(oi,_)=>stable oi)++bif ws.any fun(oi,_)=>isM oi then [1000000] else [])
 else if isC o then
  (l.zipIdx.all fun(oj,j)=>j==p||(Nat.blt j p&& !un j p)||(Nat.blt p j&& !un p j)||(bH oj.op&&vC oj.op),[])
 else(false,[])
def Xt(an pm:List Nat)(l:List aN)(o:aN)(p:Nat):Bool :=
 let un (p q:Nat):Bool:= !((an.getD (pm.getD q 0) 0).testBit (pm.getD p 0))
 (match o.op,o.g with| .call ..,none=>true|_,_=>false)&& !(LP an pm l o p).1 &&
  l.zipIdx.all fun(oj,j)=>j==p||(Nat.blt j p&&(!un j p||bH oj.op))||(Nat.blt p j&&(!un p j||(bH oj.op&&vC oj.op)))
def ac4(an pm:List Nat)(l:List aN)(o:aN)(p:Nat):Bool :=
 let un (p q:Nat):Bool:= !((an.getD (pm.getD q 0) 0).testBit (pm.getD p 0))
 (match o.op,o.g with| .call ..,none=>true|_,_=>false)&& !(LP an pm l o p).1&& !Xt an pm l o p &&
  (o.op.xs.all fun x=>match x with| .t m=>l.all fun oj=> !(oj.d==some m)||bH oj.op| .c _=>true) &&
  l.zipIdx.all fun(oj,j)=>j==p||(Nat.blt j p&&(!un j p||bH oj.op))||(Nat.blt p j&&(!un p j||(bH oj.op&&vC oj.op)||xB oj.op))
def flags(an pm:List Nat)(l:List aN):List aN :=
 l.zipIdx.map fun op=> {op.1 with fl:=(LP an pm l op.1 op.2).1||(Xt an pm l op.1 op.2||ac4 an pm l op.1 op.2),ne:=(LP an pm l op.1 op.2).2,ad:=Xt an pm l op.1 op.2,ar:=ac4 an pm l op.1 op.2}
def F5(l:List aN):List Nat->Option (List aN)
 |[]=>some []
 |i::r=>match l[i]?,F5 l r with
  |some o,some r'=>some (o::r')
  |_,_=>none
theorem Oi{l:List aN}: ∀ {pm:List Nat} {l':List aN},F5 l pm=some l'-> ∀ {p:Nat} {o:aN},l'[p]? =some o->l[pm.getD p 0]? =some o:=by
 intro pm
 induction pm with
 |nil=>intro l' h p o hp; cases h; simp at hp
 |cons i r ih =>
  intro l' h p o hp
  simp only[F5] at h
  split at h
  ·rename_i o' r' h1 h2
   cases h
   cases p with
   |zero=>simp at hp; subst hp; simpa using h1
   |succ p=>simpa using ih h2 (by simpa using hp)
  ·cases h
theorem UK{an pm:List Nat}{l:List aN}{p:Nat}{o:aN}(h:(flags an pm l)[p]? =some o): ∃ o' fl ne ad ar,l[p]? =some o'/\o= {o' with fl:=fl,ne:=ne,ad:=ad,ar:=ar}:=by
 unfold flags at h
 simp only[List.getElem?_map,Option.map_eq_some_iff] at h
 obtain⟨⟨o',q⟩,h1,h2⟩:=h
 rw[List.getElem?_zipIdx] at h1
 simp only[Option.map_eq_some_iff,Prod.mk.injEq] at h1
 obtain⟨o'',h3,rfl,rfl⟩:=h1
 exact⟨o'',_,_,_,_,h3,h2.symm⟩
end
section
variable {P:Program}
def Iy(P:Program)(ops:Array Oper):Option (List Nat×List aN) :=
 match qw P false ops ops.toList with
 |some l0 =>
  let pm:=order ops.toList l0 ops.size []
  match F5 l0 pm with
  |some l1=>some (pm,flags (UF ops.toList []) pm l1)
  |none=>none
 |none=>none
def F6(P:Program)(ops:Array Oper)(dr:Bool):Option fO :=
 match dr with
 |true=>match Iy P ops with
  |some (pm,l)=>if LK ops.toList pm l&&P.follows .mixedOrders then some (.reg true l) else none
  |none=>none
 |false=>match qw P true ops ops.toList with
  |some l=>some (.reg false l)
  |none=>none
theorem LQ{ops:Array Oper}{pm:List Nat}{l:List aN}(h:Iy P ops=some (pm,l)): ∀ p o,l[p]? =some o-> ∃ oo o' fl ne ad ar,ops[pm.getD p 0]? =some oo/\oC P false ops oo=some o'/\o= {o' with fl:=fl,ne:=ne,ad:=ad,ar:=ar}:=by
 intro p o hp
 unfold Iy at h
 split at h
 ·rename_i l0 h0
  simp only at h
  split at h
  ·rename_i l1 h1
   cases h
   obtain⟨o',fl,ne,ad,ar,h2,rfl⟩:=UK hp
   have h3:=Oi h1 h2
   have hlt:(order ops.toList l0 ops.size []).getD p 0<ops.toList.length:=by
    have:=yH h0
    obtain⟨h7,-⟩:=List.getElem?_eq_some_iff.mp h3
    omega
   have h4:ops.toList[(order ops.toList l0 ops.size []).getD p 0]? =some (ops.toList[(order ops.toList l0 ops.size []).getD p 0]'hlt):=List.getElem?_eq_getElem hlt
   obtain⟨o'',h5,h6⟩:=LM h0 h4
   rw[h3] at h5
   cases h5
   exact⟨_,o',fl,ne,ad,ar,by simp,h6,rfl⟩
  ·cases h
 ·cases h
def comp(P:Program):Code->Option fO
 | .skip=>some .skip
 | .region _ ops dr=>F6 P ops dr
 | .seq a b=>match comp P a,comp P b with
  |some a,some b=>some (.seq a b)
  |_,_=>none
 | .cond c a b=>match aV c,comp P a,comp P b with
  |some c,some a,some b=>some (.cond c a b)
  |_,_,_=>none
 | .block id b=>(comp P b).map (.blk id)
 | .exit id=>some (.exit id)
 | .loop b=>(comp P b).map .loop
 | .ret=>some .ret
 |_=>none
def Xu:oZ->Exit
 | .normal=>.normal
 | .exit id=>.exit id
 | .ret=>.ret
noncomputable def Env.shut(E:Env)(Z:Nat->Prop):Env :=
 open Classical in {E with S:=fun g=>E.S g\/ ∃ i ob,Z i/\E.h i=some ob/\rowB (E.φ i)=some g,h:=fun i=>if Z i then none else E.h i}
theorem rC{E:Env}{Z:Nat->Prop}{i:Nat}{ob:Ob}(h:(E.shut Z).h i=some ob):E.h i=some ob/\ ¬ Z i:=by
 simp only[Env.shut] at h
 split at h
 ·cases h
 ·rename_i hz; exact⟨h,hz⟩
theorem yO{E:Env}{Z:Nat->Prop}{i:Nat}(h:((E.shut Z).h i).isSome=true):(E.h i).isSome=true/\ ¬ Z i:=by
 obtain⟨ob,hob⟩:=Option.isSome_iff_exists.1 h
 obtain⟨h1,h2⟩:=rC hob
 exact⟨by rw[h1]; rfl,h2⟩
theorem vP{E:Env}{Z:Nat->Prop}{i:Nat}(h: ¬ Z i):(E.shut Z).h i=E.h i:=by
 simp only[Env.shut,if_neg h]
theorem iW(E:Env)(Z M:Nat->Prop):Keeps E (E.shut Z) M :=
 ⟨fun _ h=>.inl h,fun _ _=>rfl,fun _ _ hi=>⟨(yO hi).1,rfl,rfl⟩,rfl⟩
theorem uo(l:List T):T.aO (fun _=>True) l:=bQ.2 fun t _=>kV t
theorem oP.shut{F:Fr P}{E:Env}(hk:oP F E)(Z:Nat->Prop):oP F (E.shut Z):=by
 refine⟨fun i ob hi=>?_,fun i ob g hi hg=>?_,fun i j oi oj g hij hi hj=>hk.sep i j oi oj g hij (rC hi).1 (rC hj).1,fun g hg=>?_,hk.flt,fun g hs hf=>?_,hk.gl⟩
 ·obtain⟨k1,k2,k3⟩:=hk.obs i ob (rC hi).1
  exact⟨k1.keep (iW E Z (fun _=>True)) (uo _) (fun _ _=>rfl),k2,k3⟩
 ·obtain⟨h1,h2⟩:=rC hi
  obtain⟨k1,k2⟩:=hk.out i ob g h1 hg
  refine⟨fun hs=>?_,k2⟩
  rcases hs with hs|⟨j,oj,hz,hj,hgj⟩
  ·exact k1 hs
  ·exact hk.sep i j ob oj g (fun e=>h2 (e▸hz)) h1 hj hg hgj
 ·rcases hg with hg|⟨j,oj,hz,hj,hgj⟩
  ·exact hk.slt g hg
  ·exact(hk.obs j oj hj).1.lt hgj
 ·rcases hs with hs|⟨j,oj,hz,hj,hgj⟩
  ·exact hk.sf g hs hf
  ·exact(hk.out j oj g hj hgj).2 hf
theorem Ny(F:Fr P)(E:Env)(Z:Nat->Prop):Ext F E (E.shut Z) :=
 ⟨fun _ h=>.inl h,fun _ _=>rfl,Nat.le_refl _,rfl,rfl,rfl,rfl⟩
theorem Jh{F:Fr P}{E:Env}(hk:oP F E){Z:Nat->Prop}{k i:Nat}{l:List T}{vs:List Value}(hz:Z i)(hf:T.bZ l=true)(hnm:k≠eU){ty:TypeId}(ho:E.h i=some ⟨ty,k,l⟩)(h:aJ E (.own i) vs) :
  aJ (E.shut Z) (.sl k false l) vs:=by
 simp only[aJ] at h ⊢
 obtain⟨u,rfl,h2⟩:=h
 have hu:=h2 (by rw[ho]; rfl)
 subst hu
 obtain⟨k1,_,_⟩:=hk.obs i _ ho
 rcases k1.row hnm with ⟨a,h3,h4⟩|⟨g,c,cur,h3,h4,h5,h6,h7,h8⟩
 ·simp only at h4; subst h4
  exact⟨a,0,by rw[h3]; rfl,Nat.le_refl _,by simp,.inl rfl⟩
 ·refine⟨_,_,by rw[h3],h4,by simp,.inr ⟨g,0,cur,_,_,rfl,.inr ⟨i,_,hz,ho,by rw[h3]; rfl⟩,h6,cZ hf,?_⟩⟩
  exact dA _ _ _ (iW E Z (fun _=>True)) (uo _) _ h8
theorem Ji{F:Fr P}{E:Env}(hk:oP F E){Z:Nat->Prop}{k i j:Nat}{t:T}{l':List T}{vs:List Value}(hz:Z i)(hf:T.free t=true)(hnm:k≠eU){ty:TypeId}(ho:E.h i=some ⟨ty,k,l'⟩)(hj:l'[j]? =some t)
  (h:aJ E (.ptr i j 0) vs):aJ (E.shut Z) (.ref k t) vs:=by
 simp only[aJ] at h
 obtain⟨u,rfl,h2⟩:=h
 obtain⟨b,n,c,hφ,rfl⟩:=h2 (by rw[ho]; rfl)
 obtain⟨k1,Cm,_⟩:=hk.obs i _ ho
 have hjl:j<l'.length:=(List.getElem?_eq_some_iff.1 hj).1
 rcases k1.row hnm with ⟨a,_,h6⟩|⟨g,c',cur,h6,h7,h8,h9,h10,h11⟩
 ·simp only at h6; subst h6; simp at hjl
 ·rw[hφ] at h6
  simp only[Value.slice.injEq,Option.some.injEq,Addr.mk.injEq] at h6
  obtain⟨⟨rfl,_⟩,rfl,rfl⟩:=h6
  have h12:aC (E.shut Z) k l' cur.toList:=dA _ _ _ (iW E Z (fun _=>True)) (uo _) _ h11
  obtain⟨g1,g2,g3⟩:=vV h12 hjl
  have ht:l'.getD j .any=t:=by rw[List.getD_eq_getElem?_getD,hj]; rfl
  rw[ht] at g1 g3
  simp only[aJ]
  refine⟨b,j*bC k,cur,_,_,by rw[Cm]; simp,.inr ⟨i,_,hz,ho,by rw[hφ]; rfl⟩,h9,g1,fZ hf,by rw[List.length_drop]; omega,g3.2⟩
theorem Jj{F:Fr P}{E:Env}(hk:oP F E){Z:Nat->Prop}{k i lo hi:Nat}{l l':List T}{vs:List Value}(hz:Z i)(hf:T.bZ l=true)(hnm:k≠eU){ty:TypeId}(ho:E.h i=some ⟨ty,k,l'⟩)(hle:hi<=l'.length)(hl:l=(l'.take hi).drop lo)(h:aJ E (.ru i lo hi) vs) :
  aJ (E.shut Z) (.sl k false l) vs:=by
 simp only[aJ] at h
 obtain⟨u,rfl,h2⟩:=h
 obtain⟨ad,n,c,hφ,h3,h4,h5,rfl⟩:=h2 (by rw[ho]; rfl)
 obtain⟨k1,Cm,_⟩:=hk.obs i _ ho
 have hrow:l'=[]\/ ∃ b off cur e m,ad=some ⟨b,off,none⟩/\(E.shut Z).S b/\(E.shut Z).w.heap[b]? =some (.cells cur e m)/\off=0/\aC (E.shut Z) k l' (cur.toList.drop off):=by
  rcases k1.row hnm with ⟨a,_,h6⟩|⟨g,c',cur,h6,h7,h8,h9,h10,h11⟩
  ·exact .inl h6
  ·rw[hφ] at h6
   simp only[Value.slice.injEq] at h6
   obtain⟨rfl,_,_⟩:=h6
   refine .inr ⟨g,0,cur,_,_,rfl,.inr ⟨i,_,hz,ho,by rw[hφ,show c=(c-1)+1 by omega]; rfl⟩,h9,rfl,?_⟩
   exact dA _ _ _ (iW E Z (fun _=>True)) (uo _) _ h11
 subst hl
 have hlen:((l'.take hi).drop lo).length=hi-lo:=by simp; omega
 simp only[aJ]
 refine⟨_,_,by rw[hlen],by omega,by simp,?_⟩
 by_cases he:lo=hi
 ·exact .inl (List.eq_nil_of_length_eq_zero (by omega))
 ·have hne:l'≠[]:=by rintro rfl; simp at hle; omega
  obtain⟨b,off,cur,e,m,rfl,hS,hh,rfl,hr⟩:=hrow.resolve_left hne
  refine .inr ⟨b,0+lo*bC k,cur,e,m,?_,hS,hh,cZ hf,?_⟩
  ·rw[if_neg (by omega),Cm]; simp[addr_add]
  ·rw[<- List.drop_drop]
   exact yc (tV hr hi) lo (by simp; omega)
theorem Fa{Z:Nat->Prop}{h:Hp}: ∀ {l l':List T},T.dJ Z h l l'->l.length=l'.length:=by
 intro l
 induction l with
 |nil=>intro l' h; cases l'<;>simp_all[T.dJ]
 |cons t ts ih=>intro l' h; cases l' with
  |nil=>simp[T.dJ] at h
  |cons t' ts'=>simp only[T.dJ] at h; simp[ih h.2]
mutual
theorem Zr{Z:Nat->Prop}{h:Hp}{M:Nat->Prop}:(t t':T)->T.sub Z h t t'->t'.ids M->t.ids M
 | .any,_,_,_=>by simp[T.ids]
 | .sl _ _ _,_,_,_=>by simp[T.ids]
 | .agg l,t',hs,hm=>by
  cases t'<;>simp only[T.sub] at hs<;>try (cases hs; done)
  simp only[T.ids] at hm ⊢
  exact nX l _ hs hm
 | .fH l,t',hs,hm=>by
  cases t'<;>simp only[T.sub] at hs<;>try (cases hs; done)
  simp only[T.ids] at hm ⊢
  exact nX l _ hs hm
 | .lit _,_,_,_=>by simp[T.ids]
 | .ref _ _,_,_,_=>by simp[T.ids]
 | .own i,t',hs,hm=>by
  have:t'= .own i:=by cases t'<;>simp only[T.sub] at hs<;>first|exact hs.symm|(cases hs; done)
  subst this; exact hm
 | .ptr i j off,t',hs,hm=>by
  have:t'= .ptr i j off:=by cases t'<;>simp only[T.sub] at hs<;>first|exact hs.symm|(cases hs; done)
  subst this; exact hm
 | .ru i lo hi,t',hs,hm=>by
  have:t'= .ru i lo hi:=by cases t'<;>simp only[T.sub] at hs<;>first|exact hs.symm|(cases hs; done)
  subst this; exact hm
 | .fn f cap,t',hs,hm=>by
  have:t'= .fn f cap:=by cases t'<;>simp only[T.sub] at hs<;>first|exact hs.symm|(cases hs; done)
  subst this; exact hm
theorem nX{Z:Nat->Prop}{h:Hp}{M:Nat->Prop}:(l l':List T)->T.dJ Z h l l'->T.aO M l'->T.aO M l
 |[],_,_,_=>by simp[T.aO]
 |t::ts,[],hs,_=>by simp[T.dJ] at hs
 |t::ts,t'::ts',hs,hm=>by
  simp only[T.dJ,T.aO] at hs hm ⊢
  exact⟨Zr t t' hs.1 hm.1,nX ts ts' hs.2 hm.2⟩
end
mutual
theorem zx{F:Fr P}{E:Env}(hk:oP F E){Z:Nat->Prop}:(t t':T)->T.sub Z E.h t t'->(vs:List Value)->(t.kd=0->t'.kd≠0->False)->aJ E t' vs->aJ (E.shut Z) t vs
 | .any,_,_,_,_,_=>by simp[aJ]
 | .sl k f l,t',hs,vs,_,h=>by
  cases t'<;>simp only[T.sub] at hs<;>try (cases hs; done)
  ·rename_i k' f' l'
   obtain⟨hl',hk',hf⟩:=hs
   rcases hl' with rfl|⟨hsub,hkd⟩
   ·have h:=fV _ (fun _=>True) (iW E Z _) (kV _) _ h
    simp only[aJ] at h ⊢
    obtain⟨a,c,h1,h2,h3,h4⟩:=h
    refine⟨a,c,h1,h2,fun h=>h3 (hf h),?_⟩
    by_cases hl:l=[]
    ·exact .inl hl
    ·have:=hk'.resolve_right hl
     subst this; exact h4
   ·simp only[aJ] at h ⊢
    obtain⟨a,c,h1,h2,h3,h4⟩:=h
    have hlen:=Fa hsub
    refine⟨a,c,by rw[hlen]; exact h1,by rw[hlen]; exact h2,fun h=>by rw[hlen]; exact h3 (hf h),?_⟩
    by_cases hl:l=[]
    ·exact .inl hl
    ·have:=hk'.resolve_right hl
     subst this
     rcases h4 with h4|⟨b,off,cur,e,m,ha,hb,hh,hid,hr⟩
     ·subst h4; exact absurd (List.eq_nil_of_length_eq_zero hlen) hl
     ·exact .inr ⟨b,off,cur,e,m,ha,.inl hb,hh,nX _ _ hsub hid,zy hk l _ hsub _ hkd hr⟩
  ·obtain⟨rfl,hz,hf,hnm,ty,ho⟩:=hs
   exact Jh hk hz hf hnm ho h
  ·obtain⟨rfl,hz,hf,hnm,ty,l',ho,hle,hl⟩:=hs
   exact Jj hk hz hf hnm ho hle hl h
 | .agg l,t',hs,vs,_,h=>by
  cases t'<;>simp only[T.sub] at hs<;>try (cases hs; done)
  simp only[aJ] at h ⊢
  exact J8 hk l _ hs vs h
 | .fH l,t',hs,vs,_,h=>by
  cases t'<;>simp only[T.sub] at hs<;>try (cases hs; done)
  simp only[aJ] at h ⊢
  obtain⟨cs,h1,h2⟩:=h
  exact⟨cs,h1,nH hk l _ hs _ h2⟩
 | .lit v,t',hs,vs,_,h=>by
  have:t'= .lit v:=by cases t'<;>simp only[T.sub] at hs<;>first|exact hs.symm|(cases hs; done)
  subst this; exact fV _ (fun _=>True) (iW E Z _) (kV _) _ h
 | .ref k t,t',hs,vs,_,h=>by
  cases t'<;>simp only[T.sub] at hs<;>try (cases hs; done)
  ·rw[<- hs] at h; exact fV _ (fun _=>True) (iW E Z _) (kV _) _ h
  ·obtain⟨rfl,hz,hf,hnm,ty,l',ho,hj⟩:=hs
   exact Ji hk hz hf hnm ho hj h
 | .own i,t',hs,vs,_,h=>by
  have:t'= .own i:=by cases t'<;>simp only[T.sub] at hs<;>first|exact hs.symm|(cases hs; done)
  subst this; exact fV _ (fun _=>True) (iW E Z _) (kV _) _ h
 | .ptr i j off,t',hs,vs,_,h=>by
  have:t'= .ptr i j off:=by cases t'<;>simp only[T.sub] at hs<;>first|exact hs.symm|(cases hs; done)
  subst this; exact fV _ (fun _=>True) (iW E Z _) (kV _) _ h
 | .ru i lo hi,t',hs,vs,_,h=>by
  have:t'= .ru i lo hi:=by cases t'<;>simp only[T.sub] at hs<;>first|exact hs.symm|(cases hs; done)
  subst this; exact fV _ (fun _=>True) (iW E Z _) (kV _) _ h
 | .fn f cap,t',hs,vs,_,h=>by
  have:t'= .fn f cap:=by cases t'<;>simp only[T.sub] at hs<;>first|exact hs.symm|(cases hs; done)
  subst this; exact fV _ (fun _=>True) (iW E Z _) (kV _) _ h
theorem J8{F:Fr P}{E:Env}(hk:oP F E){Z:Nat->Prop}:(l l':List T)->T.dJ Z E.h l l'->(vs:List Value)->aW E l' vs->aW (E.shut Z) l vs
 |[],[],_,vs,h=>by simpa [aW] using h
 |t::ts,t'::ts',hs,vs,h=>by
  simp only[T.dJ] at hs
  simp only[aW] at h ⊢
  obtain⟨hkk,v,r,h1,h0,h2,h3⟩:=h
  have hkd:t.kd=0:=by
   cases t with
   |agg l=>cases t'<;>simp[T.sub,T.kd] at hs hkk
   |_=>rfl
  exact⟨hkd,v,r,h1,h0,zx hk t t' hs.1 _ (fun _ h=>h hkk) h2,J8 hk ts ts' hs.2 _ h3⟩
 |[],_::_,hs,_,_=>by simp[T.dJ] at hs
 |_::_,[],hs,_,_=>by simp[T.dJ] at hs
theorem nH{F:Fr P}{E:Env}(hk:oP F E){Z:Nat->Prop}:(l l':List T)->T.dJ Z E.h l l'->(vs:List Value)->bD E l' vs->bD (E.shut Z) l vs
 |[],[],_,vs,h=>by simpa [bD] using h
 |t::ts,t'::ts',hs,vs,h=>by
  simp only[T.dJ] at hs
  simp only[bD] at h ⊢
  obtain⟨v,r,h1,h2,h3⟩:=h
  refine⟨v,r,h1,?_,nH hk ts ts' hs.2 _ h3⟩
  by_cases ha:t= .any
  ·subst ha; exact .inr ⟨rfl,by simp[aJ]⟩
  ·have hkd:t.kd=0↔t'.kd=0:=by
    cases t<;>cases t'<;>simp[T.sub,T.kd] at hs ha ⊢
   rcases h2 with ⟨g1,cs,g2,g3⟩|⟨g1,g2⟩
   ·exact .inl ⟨fun h0=>g1 (hkd.1 h0),cs,g2,zx hk t t' hs.1 _ (fun a b=>b (hkd.1 a)) g3⟩
   ·exact .inr ⟨hkd.2 g1,zx hk t t' hs.1 _ (fun _ b=>b g1) g2⟩
 |[],_::_,hs,_,_=>by simp[T.dJ] at hs
 |_::_,[],hs,_,_=>by simp[T.dJ] at hs
theorem zy{F:Fr P}{E:Env}(hk:oP F E){Z:Nat->Prop}{k:Nat}:(l l':List T)->T.dJ Z E.h l l'->(vs:List Value)->(∀ t∈l,t.kd=k)->aC E k l' vs->aC (E.shut Z) k l vs
 |[],_,_,_,_,_=>by simp[aC]
 |t::ts,[],hs,_,_,_=>by simp[T.dJ] at hs
 |t::ts,t'::ts',h,vs,hkd,hr=>by
  simp only[T.dJ] at h
  simp only[aC] at hr ⊢
  obtain⟨h1,h2,h3,h4,h5⟩:=hr
  have hkt:=hkd t (by simp)
  exact⟨hkt,h2,h3,zx hk t t' h.1 _ (fun a b=>b (by rw[h1,<- hkt]; exact a)) h4,zy hk ts ts' h.2 _ (fun t ht=>hkd t (by simp[ht])) h5⟩
end
theorem Oj{F:Fr P}{E:Env}(hk:oP F E){Z:Nat->Prop}{t t':T}(h:T.sub Z E.h t t'){v:Value}(hr:je E t' v):je (E.shut Z) t v:=by
 have:=nH hk (Z:=Z) [t] [t'] ⟨h,by simp[T.dJ]⟩ [v] (by rw[bK]; exact⟨v,[],rfl,hr,by simp[bD]⟩)
 rw[bK] at this
 obtain⟨v',r,h1,h2,_⟩:=this
 cases h1; exact h2
theorem sG(ρ:Nat->Nat): ∀ l:List T,(T.dh ρ l).length=l.length:=by
 intro l
 induction l with
 |nil=>rfl
 |cons t ts ih=>simp[T.dh,ih]
theorem oO(ρ:Nat->Nat)(t:T):(t.ren ρ).kd=t.kd:=by
 cases t<;>simp[T.ren,T.kd,sG]
def Env.ren(E:Env)(ρ:Nat->Nat)(h:Hp):Env:= {w:=E.w,S:=E.S,φ:=fun i=>E.φ (ρ i),κ:=fun i=>E.κ (ρ i),h:=h,y:=E.y}
mutual
theorem vH{E:Env}{ρ:Nat->Nat}{h:Hp}(hl: ∀ i,(h i).isSome=true->(E.h (ρ i)).isSome=true):(t:T)->(vs:List Value)->aJ E (t.ren ρ) vs->aJ (E.ren ρ h) t vs
 | .lit v,vs,H=>by simpa [aJ,T.ren] using H
 | .agg l,vs,H=>by simp only[aJ,T.ren] at H ⊢; exact EF hl l vs H
 | .sl k f l,vs,H=>by
  simp only[aJ,T.ren] at H ⊢
  obtain⟨a,c,h1,h2,h3,h4⟩:=H
  refine⟨a,c,h1,h2,h3,?_⟩
  rcases h4 with h4|⟨b,off,cur,e,m,ha,hb,hh,hf,hr⟩
  ·exact .inl h4
  ·exact .inr ⟨b,off,cur,e,m,ha,hb,hh,hf,dA (E:=E) (E':=E.ren ρ h) l k _ ⟨fun _ h=>h,fun _ _=>rfl,fun _ hf=>hf.elim,rfl⟩ hf _ hr⟩
 | .ref k t,vs,H=>by
  simp only[aJ,T.ren] at H ⊢
  obtain⟨b,off,cur,e,m,h1,hb,hh,hk,hf,hl',hr⟩:=H
  exact⟨b,off,cur,e,m,h1,hb,hh,hk,hf,hl',fV (E:=E) (E':=E.ren ρ h) t _ ⟨fun _ h=>h,fun _ _=>rfl,fun _ hf=>hf.elim,rfl⟩ hf _ hr⟩
 | .own i,vs,H=>by
  simp only[aJ,T.ren] at H ⊢
  obtain⟨u,h1,h2⟩:=H
  exact⟨u,h1,fun hd=>h2 (hl i hd)⟩
 | .ptr i j off,vs,H=>by
  simp only[aJ,T.ren] at H ⊢
  obtain⟨u,h1,h2⟩:=H
  exact⟨u,h1,fun hd=>h2 (hl i hd)⟩
 | .ru i lo hi,vs,H=>by
  simp only[aJ,T.ren] at H ⊢
  obtain⟨u,h1,h2⟩:=H
  exact⟨u,h1,fun hd=>h2 (hl i hd)⟩
 | .fn f cap,vs,H=>by
  simp only[aJ,T.ren] at H ⊢
  rcases H with ⟨h0,cs,h1,h2⟩|⟨h0,p,hp,hf,h1,h2⟩
  ·exact .inl ⟨h0,cs,h1,EF hl cap _ h2⟩
  ·exact .inr ⟨h0,p,hp,hf,h1,qR hl cap _ h2⟩
 | .fH l,vs,H=>by
  simp only[aJ,T.ren] at H ⊢
  obtain⟨cs,h1,h2⟩:=H
  exact⟨cs,h1,qR hl l _ h2⟩
 | .any,vs,H=>by simp[aJ]
theorem EF{E:Env}{ρ:Nat->Nat}{h:Hp}(hl: ∀ i,(h i).isSome=true->(E.h (ρ i)).isSome=true):(l:List T)->(vs:List Value)->aW E (T.dh ρ l) vs->aW (E.ren ρ h) l vs
 |[],vs,H=>by simpa [aW,T.dh] using H
 |t::ts,vs,H=>by
  simp only[aW,T.dh] at H ⊢
  obtain⟨hk,v,r,h1,h0,h2,h3⟩:=H
  exact⟨by rw[<- oO ρ]; exact hk,v,r,h1,h0,vH hl t _ h2,EF hl ts _ h3⟩
theorem qR{E:Env}{ρ:Nat->Nat}{h:Hp}(hl: ∀ i,(h i).isSome=true->(E.h (ρ i)).isSome=true):(l:List T)->(vs:List Value)->bD E (T.dh ρ l) vs->bD (E.ren ρ h) l vs
 |[],vs,H=>by simpa [bD,T.dh] using H
 |t::ts,vs,H=>by
  simp only[bD,T.dh] at H ⊢
  obtain⟨v,r,h1,h2,h3⟩:=H
  refine⟨v,r,h1,?_,qR hl ts _ h3⟩
  rcases h2 with ⟨hk,cs,h4,h5⟩|⟨hk,h4⟩
  ·exact .inl ⟨by rw[<- oO ρ]; exact hk,cs,h4,vH hl t _ h5⟩
  ·exact .inr ⟨by rw[<- oO ρ]; exact hk,vH hl t _ h4⟩
end
theorem Ol{E:Env}{ρ:Nat->Nat}{h:Hp}(hl: ∀ i,(h i).isSome=true->(E.h (ρ i)).isSome=true){k:Nat}: ∀ (l:List T) (vs:List Value),aC E k (T.dh ρ l) vs->aC (E.ren ρ h) k l vs:=by
 intro l
 induction l with
 |nil=>intro vs _; simp[aC]
 |cons t ts ih =>
  intro vs H
  simp only[aC,T.dh] at H ⊢
  obtain⟨h1,h2,h3,h4,h5⟩:=H
  exact⟨by rw[<- oO ρ]; exact h1,h2,h3,vH hl t _ h4,ih _ h5⟩
theorem QD{F:Fr P}{E:Env}(hk:oP F E){Z:Nat->Prop}: ∀ {l l':List T} {es:List MapEntry},l.all iC=true->T.dJ Z E.h l l'->dY E l' es->dY (E.shut Z) l es:=by
 intro l
 induction l with
 |nil=>intro l' es _ hs h; cases l' with
  |nil=>exact h
  |cons _ _=>simp[T.dJ] at hs
 |cons t ts ih =>
  intro l' es he hs h
  simp only[List.all_cons,Bool.and_eq_true] at he
  have he1:=he.1
  cases l' with
  |nil=>simp[T.dJ] at hs
  |cons t' ts' =>
   simp only[T.dJ] at hs
   simp only[dY] at h ⊢
   obtain⟨n,u,e,r,rfl,rfl,h1,h2,h3,h4,h5⟩:=h
   have hs1:=hs.1
   cases t with
   |fH l =>
    simp only[T.sub] at hs1
    match l,hs1 with
    |[x,y],hs1 =>
     simp only[T.dJ,and_true] at hs1
     obtain⟨hx,hy⟩:=hs1
     have hkd:y.kd=0:=by
      cases y with
      |agg l=>cases u<;>simp[T.sub,T.kd] at hy h2
      |_=>rfl
     cases x with
     |lit v =>
      simp only[T.sub] at hx
      cases hx
      exact⟨n,y,e,r,rfl,rfl,h1,hkd,h3,zx hk y u hy _ (fun _ b=>b h2) h4,ih he.2 hs.2 h5⟩
     |_=>simp[iC] at he1
    |[],hs1=>simp[T.dJ] at hs1
    |[x],hs1=>simp[T.dJ] at hs1
    |x::y::z::w,hs1=>simp[T.dJ] at hs1
   |_=>simp[iC] at he1
theorem QE{E:Env}{ρ:Nat->Nat}{h:Hp}(hl: ∀ i,(h i).isSome=true->(E.h (ρ i)).isSome=true): ∀ {l:List T} {es:List MapEntry},dY E (T.dh ρ l) es->dY (E.ren ρ h) l es:=by
 intro l
 induction l with
 |nil=>intro es H; simpa [dY,T.dh] using H
 |cons t ts ih =>
  intro es H
  simp only[dY,T.dh] at H ⊢
  obtain⟨n,u,e,r,h0,rfl,h1,h2,h3,h4,h5⟩:=H
  cases t with
  |fH l =>
   simp only[T.ren,T.fH.injEq] at h0
   match l,h0 with
   |[x,y],h0 =>
    simp only[T.dh,List.cons.injEq,and_true] at h0
    obtain⟨hx,rfl⟩:=h0
    have:x= .lit (.int .i64 n):=by cases x<;>simp[T.ren] at hx ⊢; exact hx
    subst this
    exact⟨n,y,e,r,rfl,rfl,h1,by rw[<- oO ρ]; exact h2,h3,vH hl y _ h4,ih h5⟩
   |[],h0=>simp[T.dh] at h0
   |[x],h0=>simp[T.dh] at h0
   |x::y::z::w,h0=>simp[T.dh] at h0
  |_=>simp[T.ren] at h0
theorem UL{ρ:Nat->Nat}: ∀ {l:List T},l.all iC=true->(T.dh ρ l).all iC=true:=by
 intro l
 induction l with
 |nil=>intro _; rfl
 |cons t ts ih =>
  intro h
  simp only[List.all_cons,Bool.and_eq_true,T.dh] at h ⊢
  refine⟨?_,ih h.2⟩
  have h1:=h.1
  unfold iC at h1
  split at h1
  ·simp[T.ren,T.dh,iC]
  ·cases h1
theorem su.ren{F:Fr P}{E:Env}(hk:oP F E){Z:Nat->Prop}{ρ:Nat->Nat}{h:Hp}(hl: ∀ i,(h i).isSome=true->((E.shut Z).h (ρ i)).isSome=true){ob ob':Ob}{v:Value}(H:su E ob' v)(hs:Gj Z E.h ρ ob ob'):su ((E.shut Z).ren ρ h) ob v:=by
 have hlen:ob.l.length=ob'.l.length:=by rw[<- Fa hs.l,sG]
 rcases H with ⟨hnm,⟨a,h1,h2⟩|⟨g,c,cur,h1,h2,h3,h4,h5,h6⟩⟩|⟨hmk,g,es,cl,h1,h2,h3⟩
 ·exact .inl ⟨by rw[<- hs.k]; exact hnm,.inl ⟨a,h1,List.eq_nil_of_length_eq_zero (by rw[hlen,h2]; rfl)⟩⟩
 ·rw[hs.k] at hnm
  refine .inl ⟨hnm,.inr ⟨g,c,cur,by rw[hlen]; exact h1,by rw[hlen]; exact h2,h3,by rw[<- hs.ty]; exact h4,by rw[<- hs.k]; exact h5,?_⟩⟩
  refine Ol hl _ _ ?_
  rw[hs.k] at h6
  refine zy hk _ _ hs.l _ (fun t ht=>?_) h6
  have: ∀ (l:List T),(∀ t∈l,t.kd=ob.k)-> ∀ t∈T.dh ρ l,t.kd=ob.k:=by
   intro l
   induction l with
   |nil=>intro _ t ht; simp[T.dh] at ht
   |cons x xs ih =>
    intro hx t ht
    simp only[T.dh,List.mem_cons] at ht
    rcases ht with rfl|ht
    ·rw[oO]; exact hx x (by simp)
    ·exact ih (fun t ht=>hx t (by simp[ht])) t ht
  exact this _ (hs.kd.resolve_left fun h=>hnm h.1).2 t ht
 ·exact .inr ⟨by rw[<- hs.k]; exact hmk,g,es,cl,h1,h2,QE hl (QD hk (UL (hs.kd.resolve_right fun h=>h.1 (by rw[<- hs.k]; exact hmk)).2) hs.l h3)⟩
theorem oP.ren{F:Fr P}{E:Env}{Z:Nat->Prop}{ρ:Nat->Nat}{h:Hp}(hk:oP F E)(hs: ∀ i ob,h i=some ob-> ∃ ob',E.h (ρ i)=some ob'/\ ¬ Z (ρ i)/\Gj Z E.h ρ ob ob')
  (inj: ∀ i j,(h i).isSome=true->(h j).isSome=true->ρ i=ρ j->i=j):oP F ((E.shut Z).ren ρ h):=by
 have hl: ∀ i,(h i).isSome=true->((E.shut Z).h (ρ i)).isSome=true:=fun i hi=>by
  obtain⟨ob,hob⟩:=Option.isSome_iff_exists.1 hi
  obtain⟨ob',h1,h2,_⟩:=hs i ob hob
  rw[vP h2,h1]; rfl
 have hk':=hk.shut Z
 refine⟨fun i ob hi=>?_,fun i ob g hi hg=>?_,fun i j oi oj g hij hi hj hgi hgj=>?_,hk'.slt,hk'.flt,hk'.sf,hk'.gl⟩
 ·obtain⟨ob',h1,_,h2⟩:=hs i ob hi
  obtain⟨k1,k2,k3⟩:=hk.obs _ _ h1
  exact⟨k1.ren hk hl h2,by show E.κ (ρ i)=_; rw[k2,h2.k],by rw[<- h2.k]; exact k3⟩
 ·obtain⟨ob',h1,h2,_⟩:=hs i ob hi
  exact hk'.out _ _ g (by rw[vP h2]; exact h1) hg
 ·obtain⟨oi',h1,_⟩:=hs i oi hi
  obtain⟨Zt,h2,_⟩:=hs j oj hj
  refine hk.sep (ρ i) (ρ j) oi' Zt g (fun e=>hij (inj i j ?_ ?_ e)) h1 h2 hgi hgj
  ·have hi':h i=some oi:=hi
   rw[hi']; rfl
  ·have hj':h j=some oj:=hj
   rw[hj']; rfl
theorem Zc.sound{F:Fr P}{M:Nat->Prop}{E:Env}{s s':AS}{a:Act}{Z:Nat->Prop}{ρ:Nat->Nat}(W:Zc Z ρ s s')(R:Rel F M E s' a) :
  ∃ E',E'.w=E.w/\Rel F (· <s.nx) E' s a/\Ext F E E'/\Same E E' (· <s.pin)/\s.pin=s'.pin:=by
 have hl: ∀ i,(s.hp i).isSome=true->((E.shut Z).h (ρ i)).isSome=true:=fun i hi=>by
  obtain⟨ob,hob⟩:=Option.isSome_iff_exists.1 hi
  obtain⟨ob',h1,h2,_⟩:=W.hp i ob hob
  rw[vP h2,R.he,h1]; rfl
 have hfr:=W.fr
 rw[<- R.he] at hfr
 refine⟨(E.shut Z).ren ρ s.hp,rfl,⟨?_,rfl,?_,R.df,W.mf,W.mh⟩,⟨fun _ h=>.inl h,fun _ _=>rfl,Nat.le_refl _,rfl,rfl,rfl,rfl⟩,?_,W.pin⟩
 ·exact R.hk.ren (fun i ob hi=>by rw[R.he]; exact W.hp i ob hi) W.inj
 ·exact qR hl _ _ (nH R.hk _ _ hfr _ R.fr)
 ·intro i hi hs
  have hρ:=W.fix i hi hs
  refine⟨?_,?_,?_⟩
  ·have:=hl i hs; rw[hρ] at this; exact(yO this).1
  ·show E.φ (ρ i)=_; rw[hρ]
  ·show E.κ (ρ i)=_; rw[hρ]
def Env.nil(E:Env)(n:Nat)(v:Value)(ob:Ob)(h0:Hp):Env:= {w:=E.w,S:=E.S,φ:=fun i=>if i=n then v else E.φ i,κ:=fun i=>if i=n then ob.k else E.κ i,h:=upd h0 n (some ob),y:=E.y}
theorem Dz{E:Env}{M:Nat->Prop}{n:Nat}(hn: ¬ M n){v:Value}{ob:Ob}{h0:Hp}(h0': ∀ i,(h0 i).isSome=true->(E.h i).isSome=true):Same E (E.nil n v ob h0) M:=by
 intro i hi hs
 have hne:i≠n:=fun e=>hn (e▸hi)
 simp only[Env.nil,upd,hne,if_false] at hs ⊢
 exact⟨h0' i hs,trivial,trivial⟩
theorem qy{ad:Option Addr}:rowB (.slice ad 0 0)=none:=by cases ad<;>rfl
theorem Lh.sound{F:Fr P}{E:Env}{s s':AS}{a:Act}(h:Lh s s')(R:Rel F (· <s'.nx) E s' a)(hp:s'.pin<=s'.nx) :
  ∃ E',E'.w=E.w/\Rel F (· <s.nx) E' s a/\Ext F E E'/\Same E E' (· <s.pin)/\s.pin=s'.pin/\s.pin<=s.nx:=by
 obtain⟨i,k',ty,k,hg,hk,rfl⟩:=h
 obtain⟨hsz,hnm⟩:=yh hk
 have hi:i<s'.fr.length:=by
  by_cases h:i<s'.fr.length
  ·exact h
  ·rw[List.getD_eq_getElem?_getD,List.getElem?_eq_none (by omega)] at hg; cases hg
 have hgu:s'.fr.getD i T.un= .sl k' true []:=by
  rw[List.getD_eq_getElem?_getD,List.getElem?_eq_getElem hi] at hg ⊢; exact hg
 have hv:=uU R.fr i
 rw[hgu,aA rfl] at hv
 simp only[aJ] at hv
 obtain⟨ad,c,hu,_,hc,_⟩:=hv
 have hc0:c=0:=by simpa using hc
 subst hc0
 have hval:a.tmps.toList.getD i undef= .slice ad 0 0:=by simpa using hu
 have hn: ¬ (s'.nx<s'.nx):=Nat.lt_irrefl _
 have hS:Same E (E.nil s'.nx (.slice ad 0 0) ⟨ty,k,[]⟩ s'.hp) (· <s'.nx):=Dz (M:=(· <s'.nx)) hn (fun i h=>by rw[R.he]; exact h)
 have hext:Ext F E (E.nil s'.nx (.slice ad 0 0) ⟨ty,k,[]⟩ s'.hp):=⟨fun _ h=>h,fun _ _=>rfl,Nat.le_refl _,rfl,rfl,rfl,rfl⟩
 have hK:Keeps E (E.nil s'.nx (.slice ad 0 0) ⟨ty,k,[]⟩ s'.hp) (· <s'.nx):=.of hext hS
 have hne: ∀ j oj,s'.hp j=some oj->j≠s'.nx:=fun j oj hj e=>by have:=(R.mh j oj hj).1; omega
 have hok:oP F (E.nil s'.nx (.slice ad 0 0) ⟨ty,k,[]⟩ s'.hp):=by
  refine⟨fun j oj hj=>?_,fun j oj g hj hg=>?_,fun p q op oq g hpq hp hq hgp hgq=>?_,R.hk.slt,R.hk.flt,R.hk.sf,R.hk.gl⟩
  ·by_cases hjn:j=s'.nx
   ·subst hjn
    simp only[Env.nil,upd,if_true,Option.some.injEq] at hj
    subst hj
    exact⟨.inl ⟨hnm,.inl ⟨ad,by simp[Env.nil],rfl⟩⟩,by simp[Env.nil],hsz⟩
   ·simp only[Env.nil,upd,hjn,if_false] at hj
    obtain⟨k1,k2,k3⟩:=R.hk.obs j oj (by rw[R.he]; exact hj)
    refine⟨?_,by simp[Env.nil,hjn,k2],k3⟩
    have:(E.nil s'.nx (.slice ad 0 0) ⟨ty,k,[]⟩ s'.hp).φ j=E.φ j:=by simp[Env.nil,hjn]
    rw[this]
    exact k1.keep hK (R.mh j oj hj).2 (fun _ _=>rfl)
  ·by_cases hjn:j=s'.nx
   ·subst hjn; simp only[Env.nil,if_true,qy] at hg; cases hg
   ·simp only[Env.nil,upd,hjn,if_false] at hj hg
    exact R.hk.out j oj g (by rw[R.he]; exact hj) hg
  ·by_cases hpn:p=s'.nx
   ·subst hpn; simp only[Env.nil,if_true,qy] at hgp; cases hgp
   ·by_cases hqn:q=s'.nx
    ·subst hqn; simp only[Env.nil,if_true,qy] at hgq; cases hgq
    ·simp only[Env.nil,upd,hpn,hqn,if_false] at hp hq hgp hgq
     exact R.hk.sep p q op oq g hpq (by rw[R.he]; exact hp) (by rw[R.he]; exact hq) hgp hgq
 refine⟨E.nil s'.nx (.slice ad 0 0) ⟨ty,k,[]⟩ s'.hp,rfl,⟨hok,rfl,?_,R.df,?_,?_⟩,hext,?_,rfl,?_⟩
 ·have h1:=iq _ _ hK R.mf _ R.fr
  have h2:=Ep h1 i (t:=.own s'.nx) (v:=.slice ad 0 0) (by rw[aA rfl]; simp only[aJ]; exact⟨_,rfl,fun _=>by simp[Env.nil]⟩)
  have h3:a.tmps.toList.set i (.slice ad 0 0)=a.tmps.toList:=by
   rw[<- hval,List.getD_eq_getElem?_getD]
   have hi':i<a.tmps.toList.length:=by rw[nJ R.fr]; exact hi
   rw[List.getElem?_eq_getElem hi',Option.getD_some]
   exact List.set_getElem_self hi'
  rw[h3] at h2; exact h2
 ·exact uT (T.ay (fun j hj=>Nat.lt_succ_of_lt hj) _ R.mf) (by simp[T.ids])
 ·intro j oj hj
  by_cases hjn:j=s'.nx
  ·subst hjn
   simp only[upd,if_true,Option.some.injEq] at hj
   subst hj; exact⟨by show s'.nx<s'.nx+1; omega,by simp[T.aO]⟩
  ·simp only[upd,hjn,if_false] at hj
   exact⟨Nat.lt_succ_of_lt (R.mh j oj hj).1,T.ay (fun _ h=>Nat.lt_succ_of_lt h) _ (R.mh j oj hj).2⟩
 ·exact hS.weaken fun j hj=>Nat.lt_of_lt_of_le hj hp
 ·exact Nat.le_succ_of_le hp
theorem Lj.sound{F:Fr P}{E:Env}{s s':AS}{a:Act}(h:Lj s s')(R:Rel F (· <s'.nx) E s' a)(hp:s'.pin<=s'.nx) :
  ∃ E',E'.w=E.w/\Rel F (· <s.nx) E' s a/\Ext F E E'/\Same E E' (· <s.pin)/\s.pin=s'.pin/\s.pin<=s.nx:=by
 obtain⟨jj,cc,k',ty,k,oty,cs,hob,hcl,hg,hk,hjj,rfl⟩:=h
 obtain⟨hsz,hnm⟩:=yh hk
 have dS:E.h jj=some ⟨oty,cs.length+1,[.agg cs]⟩:=by rw[R.he]; exact hob
 obtain⟨k1,k2,k3⟩:=R.hk.obs jj _ dS
 have key:cs.length+1≠eU-> ∃ g c' cur,E.φ jj= .slice (some ⟨g,0,none⟩) 1 (c'+1)/\1<=c'+1/\c'+1<=maxLen/\E.w.heap[g]? =some (.cells cur oty (0,0))/\cur.size=(c'+1)*cs.length/\aC E (cs.length+1) [.agg cs] cur.toList:=by
  intro hne
  rcases k1.row hne with ⟨_,_,h2⟩|⟨g,c',cur,h1,h2,h3,h4,h5,h6⟩
  ·cases h2
  ·exact⟨g,c',cur,h1,h2,h3,h4,h5,h6⟩
 rcases Nat.decEq (cs.length+1) eU with hne|heq
 rotate_left
 ·
  obtain⟨g,es,cl,h1,h2,h3⟩:=k1.map heq
  simp only[dY] at h3
  obtain⟨n,u,e,r,h4,_⟩:=h3
  cases h4
 obtain⟨g,c',cur,hφ,hc1,hcm,hh,hcs,hr⟩:=key hne
 simp only[aC,bC] at hr
 obtain⟨_,hlen,hone,hrep,_⟩:=hr
 simp only[aJ] at hrep
 obtain⟨v,hvv,_,_,hrv⟩:=JR hrep hcl
 rw[hg] at hrv
 simp only[aJ] at hrv
 obtain⟨ad,c,hu,_,hc,_⟩:=hrv
 have hc0:c=0:=by simpa using hc
 subst hc0
 have hval:v= .slice ad 0 0:=by simpa using hu
 have hn: ¬ (s'.nx<s'.nx):=Nat.lt_irrefl _
 have hjn:jj≠s'.nx:=by omega
 let h0:Hp:=upd s'.hp jj (some ⟨oty,cs.length+1,[.agg (cs.set cc (.own s'.nx))]⟩)
 let E':Env:=E.nil s'.nx (.slice ad 0 0) ⟨ty,k,[]⟩ h0
 have hS:Same E E' (· <s'.nx):=Dz (M:=(· <s'.nx)) hn (fun i h=>by
  by_cases hij:i=jj
  ·rw[hij,dS]; rfl
  ·rw[R.he]; simpa [h0,upd,hij] using h)
 have hext:Ext F E E':=⟨fun _ h=>h,fun _ _=>rfl,Nat.le_refl _,rfl,rfl,rfl,rfl⟩
 have hK:Keeps E E' (· <s'.nx):=.of hext hS
 have hold: ∀ j oj,E'.h j=some oj->j≠s'.nx->j≠jj->E.h j=some oj:=fun j oj hj h1 h2=>by
  rw[R.he]; simpa [E',Env.nil,h0,upd,h1,h2] using hj
 have QF: ∀ j oj,E'.h j=some oj->j≠s'.nx-> ∃ Zt,E.h j=some Zt:=fun j oj hj h1=>by
  by_cases h2:j=jj
  ·exact⟨_,by rw[h2]; exact dS⟩
  ·exact⟨oj,hold j oj hj h1 h2⟩
 have hφ': ∀ j,j≠s'.nx->E'.φ j=E.φ j:=fun j h1=>by simp[E',Env.nil,h1]
 have hset: ∀ (l:List T) (i:Nat) (ws:List Value),aW E' l ws->ws[i]? =some (.slice ad 0 0)->i<l.length->aW E' (l.set i (.own s'.nx)) ws:=by
  intro l
  induction l with
  |nil=>intro i ws _ _ hi; simp at hi
  |cons t ts ih =>
   intro i ws h hw hi
   simp only[aW] at h
   obtain⟨h1,u,r,rfl,h2,h3,h4⟩:=h
   cases i with
   |zero =>
    simp at hw; subst hw
    simp only[List.set_cons_zero,aW]
    exact⟨rfl,_,r,rfl,h2,by simp only[aJ]; exact⟨_,rfl,fun _=>by simp[E',Env.nil]⟩,h4⟩
   |succ i =>
    simp only[List.set_cons_succ,aW]
    exact⟨h1,u,r,rfl,h2,h3,ih i r h4 (by simpa using hw) (by simpa using hi)⟩
 have hcells:aW E' (cs.set cc (.own s'.nx)) (cur.toList.take cs.length):=by
  refine hset cs cc _ (x9 _ _ hK ?_ _ hrep) ?_ hcl
  ·have:=(R.mh jj _ hob).2; simpa [T.aO,T.ids] using this
  ·rw[hvv,hval]
 have hok:oP F E':=by
  refine⟨fun j oj hj=>?_,fun j oj b hj hb=>?_,fun p q op oq b hpq hp hq hbp hbq=>?_,R.hk.slt,R.hk.flt,R.hk.sf,R.hk.gl⟩
  ·by_cases h1:j=s'.nx
   ·subst h1
    simp only[E',Env.nil,upd,if_true,Option.some.injEq] at hj
    subst hj
    exact⟨.inl ⟨hnm,.inl ⟨ad,by simp[E',Env.nil],rfl⟩⟩,by simp[E',Env.nil],hsz⟩
   ·rw[hφ' j h1]
    have Xv:E'.κ j=E.κ j:=by simp[E',Env.nil,h1]
    rw[Xv]
    by_cases h2:j=jj
    ·subst h2
     simp only[E',Env.nil,h0,upd,h1,if_false,if_true,Option.some.injEq] at hj
     subst hj
     refine⟨.inl ⟨hne,.inr ⟨g,c',cur,hφ,hc1,hcm,hh,hcs,?_⟩⟩,k2,k3⟩
     simp only[aC,bC,T.kd,List.length_set,aJ]
     exact⟨trivial,hlen,hone,hcells,trivial⟩
    ·have hj':=hold j oj hj h1 h2
     obtain⟨q1,q2,q3⟩:=R.hk.obs j oj hj'
     exact⟨q1.keep hK (R.mh j oj (by rw[<- R.he]; exact hj')).2 (fun _ _=>rfl),q2,q3⟩
  ·by_cases h1:j=s'.nx
   ·subst h1; simp only[E',Env.nil,if_true,qy] at hb; cases hb
   ·rw[hφ' j h1] at hb
    obtain⟨Zt,hj'⟩:=QF j oj hj h1
    exact R.hk.out j Zt b hj' hb
  ·by_cases h1:p=s'.nx
   ·subst h1; simp only[E',Env.nil,if_true,qy] at hbp; cases hbp
   ·by_cases h2:q=s'.nx
    ·subst h2; simp only[E',Env.nil,if_true,qy] at hbq; cases hbq
    ·rw[hφ' p h1] at hbp; rw[hφ' q h2] at hbq
     obtain⟨op',hp'⟩:=QF p op hp h1
     obtain⟨Qr,hq'⟩:=QF q oq hq h2
     exact R.hk.sep p q op' Qr b hpq hp' hq' hbp hbq
 refine⟨E',rfl,⟨hok,rfl,iq _ _ hK R.mf _ R.fr,R.df,T.ay (fun _ h=>Nat.lt_succ_of_lt h) _ R.mf,?_⟩,hext,?_,rfl,?_⟩
 ·intro j oj hj
  by_cases h1:j=s'.nx
  ·subst h1
   simp only[upd,if_true,Option.some.injEq] at hj
   subst hj; exact⟨by show s'.nx<s'.nx+1; omega,by simp[T.aO]⟩
  ·by_cases h2:j=jj
   ·subst h2
    simp only[upd,h1,if_false,if_true,Option.some.injEq] at hj
    subst hj
    have:=(R.mh j _ hob).2
    simp only[T.aO,T.ids] at this ⊢
    exact⟨Nat.lt_succ_of_lt hjj,uT (T.ay (fun _ h=>Nat.lt_succ_of_lt h) _ this.1) (by simp[T.ids]),trivial⟩
   ·simp only[upd,h1,h2,if_false] at hj
    exact⟨Nat.lt_succ_of_lt (R.mh j oj hj).1,T.ay (fun _ h=>Nat.lt_succ_of_lt h) _ (R.mh j oj hj).2⟩
 ·exact hS.weaken fun j hj=>Nat.lt_of_lt_of_le hj hp
 ·exact Nat.le_succ_of_le hp
theorem Qn.sound{F:Fr P}{E:Env}{s s':AS}{a:Act}(h:Qn s s')(R:Rel F (· <s'.nx) E s' a)(hp:s'.pin<=s'.nx) :
  ∃ E',E'.w=E.w/\Rel F (· <s.nx) E' s a/\Ext F E E'/\Same E E' (· <s.pin)/\s.pin=s'.pin/\s.pin<=s.nx:=by
 obtain⟨jj,k',ty,k,oty,hob,hk,hjj,rfl⟩:=h
 obtain⟨hsz,hnm⟩:=yh hk
 have dS:E.h jj=some ⟨oty,0,[.sl k' true []]⟩:=by rw[R.he]; exact hob
 obtain⟨k1,k2,k3⟩:=R.hk.obs jj _ dS
 have hne:(0:Nat)≠eU:=by decide
 obtain⟨g,c',cur,hφ,hc1,hcm,hh,hcs,hr⟩: ∃ g c' cur,E.φ jj= .slice (some ⟨g,0,none⟩) 1 (c'+1)/\1<=c'+1/\c'+1<=maxLen/\E.w.heap[g]? =some (.cells cur oty (0,0))/\cur.size=(c'+1)*1/\aC E 0 [.sl k' true []] cur.toList:=by
  rcases k1.row hne with ⟨_,_,h2⟩|⟨g,c',cur,h1,h2,h3,h4,h5,h6⟩
  ·cases h2
  ·exact⟨g,c',cur,h1,h2,h3,h4,h5,h6⟩
 simp only[aC,bC] at hr
 obtain⟨_,hlen,hone,hrep,_⟩:=hr
 simp only[aJ] at hrep
 obtain⟨ad,c,hu,_,hc,_⟩:=hrep
 have hc0:c=0:=by simpa using hc
 subst hc0
 have hval:cur.toList.take 1=[.slice ad 0 0]:=by simpa using hu
 have hn: ¬ (s'.nx<s'.nx):=Nat.lt_irrefl _
 have hjn:jj≠s'.nx:=by omega
 let h0:Hp:=upd s'.hp jj (some ⟨oty,0,[.own s'.nx]⟩)
 let E':Env:=E.nil s'.nx (.slice ad 0 0) ⟨ty,k,[]⟩ h0
 have hS:Same E E' (· <s'.nx):=Dz (M:=(· <s'.nx)) hn (fun i h=>by
  by_cases hij:i=jj
  ·rw[hij,dS]; rfl
  ·rw[R.he]; simpa [h0,upd,hij] using h)
 have hext:Ext F E E':=⟨fun _ h=>h,fun _ _=>rfl,Nat.le_refl _,rfl,rfl,rfl,rfl⟩
 have hK:Keeps E E' (· <s'.nx):=.of hext hS
 have hold: ∀ j oj,E'.h j=some oj->j≠s'.nx->j≠jj->E.h j=some oj:=fun j oj hj h1 h2=>by
  rw[R.he]; simpa [E',Env.nil,h0,upd,h1,h2] using hj
 have QF: ∀ j oj,E'.h j=some oj->j≠s'.nx-> ∃ Zt,E.h j=some Zt:=fun j oj hj h1=>by
  by_cases h2:j=jj
  ·exact⟨_,by rw[h2]; exact dS⟩
  ·exact⟨oj,hold j oj hj h1 h2⟩
 have hφ': ∀ j,j≠s'.nx->E'.φ j=E.φ j:=fun j h1=>by simp[E',Env.nil,h1]
 have hok:oP F E':=by
  refine⟨fun j oj hj=>?_,fun j oj b hj hb=>?_,fun p q op oq b hpq hp hq hbp hbq=>?_,R.hk.slt,R.hk.flt,R.hk.sf,R.hk.gl⟩
  ·by_cases h1:j=s'.nx
   ·subst h1
    simp only[E',Env.nil,upd,if_true,Option.some.injEq] at hj
    subst hj
    exact⟨.inl ⟨hnm,.inl ⟨ad,by simp[E',Env.nil],rfl⟩⟩,by simp[E',Env.nil],hsz⟩
   ·rw[hφ' j h1]
    have Xv:E'.κ j=E.κ j:=by simp[E',Env.nil,h1]
    rw[Xv]
    by_cases h2:j=jj
    ·subst h2
     simp only[E',Env.nil,h0,upd,h1,if_false,if_true,Option.some.injEq] at hj
     subst hj
     refine⟨.inl ⟨hne,.inr ⟨g,c',cur,hφ,hc1,hcm,hh,hcs,?_⟩⟩,k2,k3⟩
     simp only[aC,bC,T.kd,aJ]
     exact⟨trivial,hlen,hone,⟨_,hval,fun _=>by simp[E',Env.nil]⟩,trivial⟩
    ·have hj':=hold j oj hj h1 h2
     obtain⟨q1,q2,q3⟩:=R.hk.obs j oj hj'
     exact⟨q1.keep hK (R.mh j oj (by rw[<- R.he]; exact hj')).2 (fun _ _=>rfl),q2,q3⟩
  ·by_cases h1:j=s'.nx
   ·subst h1; simp only[E',Env.nil,if_true,qy] at hb; cases hb
   ·rw[hφ' j h1] at hb
    obtain⟨Zt,hj'⟩:=QF j oj hj h1
    exact R.hk.out j Zt b hj' hb
  ·by_cases h1:p=s'.nx
   ·subst h1; simp only[E',Env.nil,if_true,qy] at hbp; cases hbp
   ·by_cases h2:q=s'.nx
    ·subst h2; simp only[E',Env.nil,if_true,qy] at hbq; cases hbq
    ·rw[hφ' p h1] at hbp; rw[hφ' q h2] at hbq
     obtain⟨op',hp'⟩:=QF p op hp h1
     obtain⟨Qr,hq'⟩:=QF q oq hq h2
     exact R.hk.sep p q op' Qr b hpq hp' hq' hbp hbq
 refine⟨E',rfl,⟨hok,rfl,iq _ _ hK R.mf _ R.fr,R.df,T.ay (fun _ h=>Nat.lt_succ_of_lt h) _ R.mf,?_⟩,hext,?_,rfl,?_⟩
 ·intro j oj hj
  by_cases h1:j=s'.nx
  ·subst h1
   simp only[upd,if_true,Option.some.injEq] at hj
   subst hj; exact⟨by show s'.nx<s'.nx+1; omega,by simp[T.aO]⟩
  ·by_cases h2:j=jj
   ·subst h2
    simp only[upd,h1,if_false,if_true,Option.some.injEq] at hj
    subst hj
    exact⟨Nat.lt_succ_of_lt hjj,by simp[T.aO,T.ids]⟩
   ·simp only[upd,h1,h2,if_false] at hj
    exact⟨Nat.lt_succ_of_lt (R.mh j oj hj).1,T.ay (fun _ h=>Nat.lt_succ_of_lt h) _ (R.mh j oj hj).2⟩
 ·exact hS.weaken fun j hj=>Nat.lt_of_lt_of_le hj hp
 ·exact Nat.le_succ_of_le hp
theorem H6.sound{F:Fr P}{E:Env}{s s':AS}{a:Act}(h:H6 s s')(R:Rel F (· <s'.nx) E s' a)(hp:s'.pin<=s'.nx) :
  ∃ E',E'.w=E.w/\Rel F (· <s.nx) E' s a/\Ext F E E'/\Same E E' (· <s.pin)/\s.pin=s'.pin/\s.pin<=s.nx:=by
 obtain⟨jj,ii,hi,ob,hg,hob,hin,hle,hnm,rfl⟩:=h
 have hj:jj<s'.fr.length:=by
  by_cases h:jj<s'.fr.length
  ·exact h
  ·rw[List.getD_eq_getElem?_getD,List.getElem?_eq_none (by omega)] at hg; cases hg
 have hgu:s'.fr.getD jj T.un= .ru ii 0 hi:=by
  rw[List.getD_eq_getElem?_getD,List.getElem?_eq_getElem hj] at hg ⊢; exact hg
 have hv:=uU R.fr jj
 rw[hgu,aA rfl] at hv
 simp only[aJ] at hv
 obtain⟨u,hu,hlive⟩:=hv
 have dS:E.h ii=some ob:=by rw[R.he]; exact hob
 obtain⟨ad,nn,c,hφ,_,hl2,hl3,hu'⟩:=hlive (by rw[dS]; rfl)
 obtain⟨k1,k2,k3⟩:=R.hk.obs ii ob dS
 have hval:a.tmps.toList.getD jj undef= .slice ad hi c:=by
  have h1:a.tmps.toList.getD jj undef=u:=by simpa using hu
  rw[h1,hu']
  simp only[Nat.zero_mul,Nat.sub_zero]
  split
  ·rfl
  ·cases ad with
   |none=>rfl
   |some ad =>
    rcases k1.row hnm with ⟨_,h3,_⟩|⟨g,c',cur,h3,_⟩
    ·rw[hφ] at h3; simp at h3; omega
    ·rw[hφ] at h3; simp at h3; rw[h3.1]; simp[addr_add]
 have hn: ¬ (s'.nx<s'.nx):=Nat.lt_irrefl _
 have hne:ii≠s'.nx:=by omega
 let h0:Hp:=upd s'.hp ii none
 let E':Env:=E.nil s'.nx (.slice ad hi c) ⟨ob.ty,ob.k,ob.l.take hi⟩ h0
 have hS:Same E E' (· <s'.nx):=Dz (M:=(· <s'.nx)) hn (fun i h=>by
  by_cases hij:i=ii
  ·simp[h0,upd,hij] at h
  ·rw[R.he]; simpa [h0,upd,hij] using h)
 have hext:Ext F E E':=⟨fun _ h=>h,fun _ _=>rfl,Nat.le_refl _,rfl,rfl,rfl,rfl⟩
 have hK:Keeps E E' (· <s'.nx):=.of hext hS
 have hold: ∀ j oj,E'.h j=some oj->j≠s'.nx->j≠ii/\E.h j=some oj:=fun j oj hj h1=>by
  by_cases h2:j=ii
  ·subst h2; simp[E',Env.nil,h0,upd,h1] at hj
  ·exact⟨h2,by rw[R.he]; simpa [E',Env.nil,h0,upd,h1,h2] using hj⟩
 have hφ': ∀ j,j≠s'.nx->E'.φ j=E.φ j:=fun j h1=>by simp[E',Env.nil,h1]
 have nR:E'.φ s'.nx= .slice ad hi c:=by simp[E',Env.nil]
 have hrow:Cj E' ⟨ob.ty,ob.k,ob.l.take hi⟩ (.slice ad hi c):=by
  rcases k1.row hnm with ⟨a',h3,h4⟩|⟨g,c',cur,h3,h4,h5,h6,h7,h8⟩
  ·rw[hφ] at h3; simp at h3
   have hh0:hi=0:=by omega
   refine .inl ⟨ad,by rw[hh0,h3.2.2],by simp[h4]⟩
  ·rw[hφ] at h3
   simp only[Value.slice.injEq] at h3
   obtain⟨rfl,rfl,rfl⟩:=h3
   refine .inr ⟨g,c',cur,by simp; omega,by simp; omega,h5,h6,h7,?_⟩
   exact tV (dA _ _ _ hK (R.mh ii ob hob).2 _ h8) hi
 have hblk: ∀ g,rowB (.slice ad hi c)=some g->rowB (E.φ ii)=some g:=fun g hg=>by
  rw[hφ]; revert hg; cases ad<;>cases c<;>simp[rowB]
 have hok:oP F E':=by
  refine⟨fun j oj hj=>?_,fun j oj b hj hb=>?_,fun p q op oq b hpq hp hq hbp hbq=>?_,R.hk.slt,R.hk.flt,R.hk.sf,R.hk.gl⟩
  ·by_cases h1:j=s'.nx
   ·subst h1
    simp only[E',Env.nil,upd,if_true,Option.some.injEq] at hj
    subst hj
    exact⟨.inl ⟨hnm,by rw[nR]; exact hrow⟩,by simp[E',Env.nil],k3⟩
   ·obtain⟨h2,hj'⟩:=hold j oj hj h1
    rw[hφ' j h1]
    have Xv:E'.κ j=E.κ j:=by simp[E',Env.nil,h1]
    rw[Xv]
    obtain⟨q1,q2,q3⟩:=R.hk.obs j oj hj'
    exact⟨q1.keep hK (R.mh j oj (by rw[<- R.he]; exact hj')).2 (fun _ _=>rfl),q2,q3⟩
  ·by_cases h1:j=s'.nx
   ·subst h1; rw[nR] at hb; exact R.hk.out ii ob b dS (hblk b hb)
   ·rw[hφ' j h1] at hb
    exact R.hk.out j oj b (hold j oj hj h1).2 hb
  ·by_cases h1:p=s'.nx
   ·subst h1
    have h2:q≠s'.nx:=fun e=>hpq e.symm
    rw[nR] at hbp; rw[hφ' q h2] at hbq
    obtain⟨g1,g2⟩:=hold q oq hq h2
    exact R.hk.sep ii q ob oq b (Ne.symm g1) dS g2 (hblk b hbp) hbq
   ·by_cases h2:q=s'.nx
    ·subst h2
     rw[nR] at hbq; rw[hφ' p h1] at hbp
     obtain⟨g1,g2⟩:=hold p op hp h1
     exact R.hk.sep p ii op ob b g1 g2 dS hbp (hblk b hbq)
    ·rw[hφ' p h1] at hbp; rw[hφ' q h2] at hbq
     exact R.hk.sep p q op oq b hpq (hold p op hp h1).2 (hold q oq hq h2).2 hbp hbq
 refine⟨E',rfl,⟨hok,rfl,?_,R.df,?_,?_⟩,hext,?_,rfl,?_⟩
 ·have h1:=iq _ _ hK R.mf _ R.fr
  have h2:=Ep h1 jj (t:=.own s'.nx) (v:=.slice ad hi c) (by rw[aA rfl]; simp only[aJ]; exact⟨_,rfl,fun _=>nR.symm⟩)
  have h3:a.tmps.toList.set jj (.slice ad hi c)=a.tmps.toList:=by
   rw[<- hval,List.getD_eq_getElem?_getD]
   have hi':jj<a.tmps.toList.length:=by rw[nJ R.fr]; exact hj
   rw[List.getElem?_eq_getElem hi',Option.getD_some]
   exact List.set_getElem_self hi'
  rw[h3] at h2; exact h2
 ·exact uT (T.ay (fun j hj=>Nat.lt_succ_of_lt hj) _ R.mf) (by simp[T.ids])
 ·intro j oj hj
  by_cases h1:j=s'.nx
  ·subst h1
   simp only[upd,if_true,Option.some.injEq] at hj
   subst hj; exact⟨by show s'.nx<s'.nx+1; omega,T.ay (fun _ h=>Nat.lt_succ_of_lt h) _ (ug (R.mh ii ob hob).2 _)⟩
  ·by_cases h2:j=ii
   ·simp[upd,h2,hne] at hj
   ·simp only[upd,h1,h2,if_false] at hj
    exact⟨Nat.lt_succ_of_lt (R.mh j oj hj).1,T.ay (fun _ h=>Nat.lt_succ_of_lt h) _ (R.mh j oj hj).2⟩
 ·exact hS.weaken fun j hj=>Nat.lt_of_lt_of_le hj hp
 ·exact Nat.le_succ_of_le hp
theorem Zu: ∀ t:T,t.ren id=t:=by
 intro t
 apply T.rec (motive_1:=fun t=>t.ren id=t) (motive_2:=fun l=>T.dh id l=l)
 all_goals (intros; simp_all[T.ren,T.dh])
theorem DC: ∀ l:List T,T.dh id l=l:=by
 intro l
 induction l with
 |nil=>rfl
 |cons t ts ih=>simp[T.dh,ih,Zu]
theorem QG{E:Env}{k:Nat}: ∀ {l:List T} {vs:List Value},aC E k l vs-> ∀ t∈l,t.kd=k:=by
 intro l
 induction l with
 |nil=>intro vs _ t ht; cases ht
 |cons x xs ih =>
  intro vs h t ht
  simp only[aC] at h
  obtain⟨h1,_,_,_,h5⟩:=h
  rcases List.mem_cons.1 ht with rfl|ht
  ·exact h1
  ·exact ih h5 t ht
theorem LU{E:Env}: ∀ {l:List T} {es:List MapEntry},dY E l es->l.all iC=true:=by
 intro l
 induction l with
 |nil=>intro es _; rfl
 |cons x xs ih =>
  intro es h
  simp only[dY] at h
  obtain⟨n,u,e,r,rfl,_,_,_,_,_,h7⟩:=h
  rw[List.all_cons,ih h7]; rfl
theorem su.kinds{E:Env}{ob:Ob}{v:Value}(h:su E ob v):(ob.k=eU/\ob.l.all iC=true)\/(ob.k≠eU/\ ∀ t∈ob.l,t.kd=ob.k):=by
 rcases h with ⟨hk,⟨a,_,hl⟩|⟨g,c,cur,_,_,_,_,_,hr⟩⟩|⟨hk,g,es,cl,_,_,hr⟩
 ·exact .inr ⟨hk,fun t ht=>by rw[hl] at ht; cases ht⟩
 ·exact .inr ⟨hk,QG hr⟩
 ·exact .inl ⟨hk,LU hr⟩
theorem D6{k:Nat}: ∀ {l l':List T},l.map T.kd=l'.map T.kd->(∀ t∈l',t.kd=k)-> ∀ t∈l,t.kd=k:=by
 intro l l' h hl t ht
 have:t.kd∈l'.map T.kd:=by rw[<- h]; exact List.mem_map.2 ⟨t,ht,rfl⟩
 obtain⟨u,hu,e⟩:=List.mem_map.1 this
 rw[<- e]; exact hl u hu
theorem Gl: ∀ {l l':List T},l.map iC=l'.map iC->l'.all iC=true->l.all iC=true:=by
 intro l l' h hl
 rw[List.all_eq_true] at hl ⊢
 intro t ht
 have:iC t∈l'.map iC:=by rw[<- h]; exact List.mem_map.2 ⟨t,ht,rfl⟩
 obtain⟨u,hu,e⟩:=List.mem_map.1 this
 rw[<- e]; exact hl u hu
theorem W9.wk{F:Fr P}{E:Env}{s s':AS}{a:Act}{Z:Nat->Prop}(W:W9 Z s s')(R:Rel F (· <s'.nx) E s' a)(hp:s'.pin<=s'.nx):Zc Z id s s':=by
 refine⟨by rw[DC]; exact W.fr,fun i ob hi=>?_,fun i j _ _ e=>e,?_,fun i ob hi=>?_,W.pin,by rw[W.nx]; exact hp,fun i _ _=>rfl⟩
 ·obtain⟨ob',h1,h2,h3,h4,h5,h6,h7⟩:=W.hp i ob hi
  refine⟨ob',h1,h2,h3,h4,by rw[DC]; exact h5,?_⟩
  have hk:=(R.hk.obs i ob' (by rw[R.he]; exact h1)).1.kinds
  rw[<- h4]
  rcases hk with ⟨g1,g2⟩|⟨g1,g2⟩
  ·exact .inl ⟨g1,Gl h7 g2⟩
  ·exact .inr ⟨g1,D6 h6 g2⟩
 ·rw[W.nx]; exact nX _ _ W.fr R.mf
 ·obtain⟨ob',h1,h2,h3,h4,h5,h6,h7⟩:=W.hp i ob hi
  obtain⟨g1,g2⟩:=R.mh i ob' h1
  rw[W.nx]
  exact⟨g1,nX _ _ h5 g2⟩
theorem FK.sound{F:Fr P}{s s':AS}{a:Act}(h:FK s s'): ∀ {E:Env},Rel F (· <s'.nx) E s' a->s'.pin<=s'.nx ->
  ∃ E',E'.w=E.w/\Rel F (· <s.nx) E' s a/\Ext F E E'/\Same E E' (· <s.pin)/\s.pin=s'.pin/\s.pin<=s.nx:=by
 induction h with
 |refl=>intro E R hp; exact⟨E,rfl,R,Ext.refl _ _,Same.refl _ _,rfl,hp⟩
 |slot h _ ih =>
  intro E R hp
  obtain⟨E1,h1,R1,x1,s1,p1,q1⟩:=h.sound R hp
  obtain⟨E2,h2,R2,x2,s2,p2,q2⟩:=ih R1 q1
  exact⟨E2,h2.trans h1,R2,x1.trans x2,by rw[p2] at s2 ⊢; exact s1.trans s2 fun _ h=>h,p2.trans p1,q2⟩
 |cell h _ ih =>
  intro E R hp
  obtain⟨E1,h1,R1,x1,s1,p1,q1⟩:=h.sound R hp
  obtain⟨E2,h2,R2,x2,s2,p2,q2⟩:=ih R1 q1
  exact⟨E2,h2.trans h1,R2,x1.trans x2,by rw[p2] at s2 ⊢; exact s1.trans s2 fun _ h=>h,p2.trans p1,q2⟩
 |box h _ ih =>
  intro E R hp
  obtain⟨E1,h1,R1,x1,s1,p1,q1⟩:=h.sound R hp
  obtain⟨E2,h2,R2,x2,s2,p2,q2⟩:=ih R1 q1
  exact⟨E2,h2.trans h1,R2,x1.trans x2,by rw[p2] at s2 ⊢; exact s1.trans s2 fun _ h=>h,p2.trans p1,q2⟩
 |take h _ ih =>
  intro E R hp
  obtain⟨E1,h1,R1,x1,s1,p1,q1⟩:=h.sound R hp
  obtain⟨E2,h2,R2,x2,s2,p2,q2⟩:=ih R1 q1
  exact⟨E2,h2.trans h1,R2,x1.trans x2,by rw[p2] at s2 ⊢; exact s1.trans s2 fun _ h=>h,p2.trans p1,q2⟩
 |fz h _ ih =>
  intro E R hp
  have W:=h.wk R hp
  obtain⟨E1,h1,R1,x1,s1,p1⟩:=W.sound R
  obtain⟨E2,h2,R2,x2,s2,p2,q2⟩:=ih R1 (by rw[p1]; exact W.le)
  exact⟨E2,h2.trans h1,R2,x1.trans x2,by rw[p2] at s2 ⊢; exact s1.trans s2 fun _ h=>h,p2.trans p1,q2⟩
theorem Wk.sound{F:Fr P}{E:Env}{s s':AS}{a:Act}(h:Wk s s')(R:Rel F (· <s'.nx) E s' a)(hp:s'.pin<=s'.nx) :
  ∃ E',E'.w=E.w/\Rel F (· <s.nx) E' s a/\Ext F E E'/\Same E E' (· <s.pin)/\s.pin=s'.pin/\s.pin<=s.nx:=by
 obtain⟨s1,hN,rfl|⟨Z,ρ,W⟩⟩:=h
 ·exact hN.sound R hp
 obtain⟨E1,h1,R1,x1,t1,p1,q1⟩:=hN.sound R hp
 obtain⟨E2,h2,R2,x2,t2,p2⟩:=W.sound R1
 refine⟨E2,h2.trans h1,R2,x1.trans x2,?_,p2.trans p1,?_⟩
 ·rw[p2] at t2 ⊢; exact t1.trans t2 fun _ h=>h
 ·have:=W.le; rw[p2]; exact this
end
section
variable {P:Program}
def J9(E:Env):Env:= {E with w:= {E.w with drawn:=E.w.drawn+1}}
theorem Rel.drew{F:Fr P}{M:Nat->Prop}{E:Env}{s:AS}{a:Act}(R:Rel F M E s a):Rel F M (J9 E) s a:=by
 have hK: ∀ M,Keeps E (J9 E) M:=fun M=>⟨fun _ h=>h,fun _ _=>rfl,fun _ _ h=>⟨h,rfl,rfl⟩,rfl⟩
 refine⟨⟨fun i ob hi=>?_,R.hk.out,R.hk.sep,R.hk.slt,R.hk.flt,R.hk.sf,R.hk.gl⟩,R.he,iq _ M (hK M) R.mf _ R.fr,R.df,R.mf,R.mh⟩
 obtain⟨k1,k2,k3⟩:=R.hk.obs i ob hi
 exact⟨k1.keep (hK M) (R.mh i ob (by rw[<- R.he]; exact hi)).2 (fun _ _=>rfl),k2,k3⟩
theorem Xw(F:Fr P)(E:Env):Ext F E (J9 E):=⟨fun _ h=>h,fun _ _=>rfl,Nat.le_refl _,rfl,rfl,rfl,rfl⟩
def Iz(F:Fr P)(E:Env)(pn:Nat)(Q:oZ->AS->Prop)(e:Exit)(a':Act)(w':World):Prop :=
 ∃ ae E' s',e=Xu ae/\E'.w=w'/\Q ae s'/\Rel F (· <s'.nx) E' s' a'/\s'.pin=pn/\pn<=s'.nx/\Ext F E E'/\Same E E' (· <pn)
theorem Iz.after{F:Fr P}{E E':Env}{pn:Nat}{Q:oZ->AS->Prop}{e:Exit}{a':Act}{w':World}(hext:Ext F E E')(hs:Same E E' (· <pn))(h:Iz F E' pn Q e a' w'):Iz F E pn Q e a' w':=by
 obtain⟨ae,YE,s',h1,h2,h3,h4,h5,h6,h7,h8⟩:=h
 exact⟨ae,YE,s',h1,h2,h3,h4,h5,h6,hext.trans h7,hs.trans h8 fun _ h=>h⟩
theorem Om(r:Option Nat){F:Fr P}{E:Env}{s:AS}{a:Act}{id:Nat}{ops:Array Oper}{dr:Bool}{ac:fO}(hc:F6 P ops dr=some ac){Q:oZ->AS->Prop}(h:aw P ac Q s)(hp:s.pin<=s.nx)(R:Rel F (· <s.nx) E s a) :
  (Code.region id ops dr).wpIn (wd r) 0 P (Iz F E s.pin Q) a E.w:=by
 have fin: ∀ (l:List aN),l.length=ops.size-> ∀ E₀,Ext F E E₀->Same E E₀ (· <s.pin)-> ∀ E' s' a',(s'.pin=s.pin/\Q .normal {s' with nx:=s.nx+l.length})->Rel F (· <s.nx+ops.size) E' s' a'->Ext F E₀ E'->Same E₀ E' (· <s.nx) ->
   Iz F E s.pin Q .normal a' E'.w:=by
  intro l hlen E₀ h1 h2 E' s' a' ⟨h3,h4⟩ h5 h6 h7
  refine⟨.normal,E',_,rfl,rfl,h4,?_,h3,by show s.pin<=s.nx+l.length; omega,h1.trans h6,h2.trans h7 fun i hi=>Nat.lt_of_lt_of_le hi hp⟩
  have:=h5.nx (s.nx+l.length)
  show Rel F (· <s.nx+l.length) E' _ a'
  rw[hlen]
  rw[hlen] at this
  exact this
 cases dr with
 |true =>
  simp only[F6] at hc
  split at hc
  ·rename_i pm l hl
   split at hc
   ·rename_i hd
    cases hc
    rw[Bool.and_eq_true] at hd
    simp only[aw] at h
    have hfl:=LQ hl
    have hlen:l.length=ops.size:=by
     have:=hd.1
     simp only[LK,Bool.and_eq_true,beq_iff_eq,Array.length_toList] at this
     exact this.1.1.2
    have hI:=abv (nx:=s.nx) (pn:=s.pin) rfl rfl h
    refine wpIn_region_any hd.2 ?_
    have ad6:Jg pm l (Array.replicate ops.size false)=l.zipIdx:=by
     unfold Jg
     rw[List.filter_eq_self]
     rintro⟨o,p⟩ hm
     have:=List.mem_zipIdx hm
     have hpl:p<l.length:=by omega
     obtain⟨oo,_,_,_,_,_,h1,_⟩:=hfl p _ (List.getElem?_eq_getElem hpl)
     have hi:pm.getD p 0<ops.size:=(Array.getElem?_eq_some_iff.1 h1).1
     rw[Array.getD_eq_getD_getElem?,Array.getElem?_replicate,if_pos hi]
     rfl
    rw[<- ad6] at hI
    have hg: ∀ i,i<ops.size->(Array.replicate ops.size false).getD i true=false:=fun i hi=>by simp[Array.getD_eq_getD_getElem?,hi]
    refine QC (r0:=r) hfl hd.1 (nx:=s.nx) (E₀:=J9 E) (fun E' s' a' h1 h2 h3 h4=>fin l hlen (J9 E) (Xw F E) (fun _ _ h=>⟨h,rfl,rfl⟩) E' s' a' h1 h2 h3 h4)
     ops.size _ (J9 E) s a (by simp) (fun i o hi hl'=>?_) ?_ rfl (R.drew.weaken fun j hj=>.inl hj) (Ext.refl _ _) (Same.refl _ _) hI
    ·exfalso
     have:i<ops.size:=by rw[List.getElem?_eq_some_iff] at hi; simpa using hi.1
     rw[hg i this] at hl'; cases hl'
    ·exact Nat.le_trans (List.length_filter_le _ _) (by simp)
   ·cases hc
  ·cases hc
 |false =>
  simp only[F6] at hc
  split at hc
  ·rename_i l hl
   cases hc
   have hlen:=yH hl
   simp only[Array.length_toList] at hlen
   simp only[aw] at h
   refine wpIn_region_list ?_
   refine QB (r0:=r) (n0:=s.nx) (pn:=s.pin) (E₀:=E) (i:=0) (fun E' s' a' i hn hp' h1 h2 hi h3 h4=>?_) hl (by simp) (Nat.le_refl _) rfl R (Ext.refl _ _) (Same.refl _ _) h
   refine⟨.normal,E',_,rfl,rfl,h1,?_,hp',by show s.pin<=s'.nx+l.length; omega,h3,h4.weaken fun i hi=>Nat.lt_of_lt_of_le hi hp⟩
   exact(h2.nx _).weaken fun j hj=>by show j<s'.nx+l.length; omega
  ·cases hc
theorem wpIn_loop_ghost{F:Fence}{n:Nat}{Q:Exit->Act->World->Prop}{a:Act}{w:World}{c:Code}(I:Nat->Act->World->Prop)(n₀:Nat)(h₀:I n₀ a w)
  (round: ∀ m a w,I m a w->c.wpIn F n P (Exit.then (fun a' w'=> ∃ n',n'<m/\I n' a' w') Q) a w):(Code.loop c).wpIn F n P Q a w:=by
 refine wpIn_loop (fun a w=> ∃ n,I n a w) (fun a w=>leastOf (fun n=>I n a w)) ⟨n₀,h₀⟩ ?_
 intro a w hI
 refine wpIn_mono (round _ a w (leastOf_spec hI).1) ?_
 intro e a' w' hq
 cases e with
 |normal =>
  obtain⟨n',hlt,hI'⟩:=hq
  exact show(∃ n,I n a' w')/\leastOf (fun n=>I n a' w')<leastOf (fun n=>I n a w) from⟨⟨n',hI'⟩,Nat.lt_of_le_of_lt ((leastOf_spec ⟨n',hI'⟩).2 n' hI') hlt⟩
 |exit id=>exact hq
 |goto l=>exact hq
 |ret=>exact hq
 |panic ch=>exact hq
 |outgrown=>exact hq
theorem QH(r:Option Nat){F:Fr P}: ∀ (c:Code) {ac:fO},comp P c=some ac-> ∀ {Q:oZ->AS->Prop} {E:Env} {s:AS} {a:Act},aw P ac Q s->s.pin<=s.nx->Rel F (· <s.nx) E s a ->
  c.wpIn (wd r) 0 P (Iz F E s.pin Q) a E.w:=by
 intro c
 induction c with
 |skip=>intro ac hc Q E s a h hp R; cases hc; exact wpIn_skip ⟨.normal,E,s,rfl,rfl,h,R,rfl,hp,Ext.refl _ _,Same.refl _ _⟩
 |region id ops dr=>intro ac hc Q E s a h hp R; exact Om r hc h hp R
 |seq x y ihx ihy =>
  intro ac hc Q E s a h hp R
  simp only[comp] at hc
  split at hc
  ·rename_i x' y' h1 h2
   cases hc
   simp only[aw] at h
   refine wpIn_seq (wpIn_mono (ihx h1 h hp R) ?_)
   rintro e a' w' ⟨ae,E',s',rfl,rfl,hQ,R',hpn,hle,hext,hs⟩
   cases ae with
   |normal =>
    have:=ihy h2 (Q:=Q) hQ (by rw[hpn]; exact hle) R'
    rw[hpn] at this
    exact wpIn_mono this fun e a w hh=>hh.after hext hs
   |exit id=>exact⟨.exit id,E',s',rfl,rfl,hQ,R',hpn,hle,hext,hs⟩
   |ret=>exact⟨.ret,E',s',rfl,rfl,hQ,R',hpn,hle,hext,hs⟩
  ·cases hc
 |cond c x y ihx ihy =>
  intro ac hc Q E s a h hp R
  simp only[comp] at hc
  split at hc
  ·rename_i c' x' y' h0 h1 h2
   cases hc
   simp only[aw] at h
   have rc:=bI R h0
   split at h
   ·rename_i t e1
    rw[e1,aK] at rc
    refine wpIn_cond rc ?_
    cases t with
    |true=>exact ihx h1 (h.1 rfl) hp R
    |false=>exact ihy h2 (h.2 rfl) hp R
   ·exact h.elim
  ·cases hc
 |block id b ih =>
  intro ac hc Q E s a h hp R
  simp only[comp,Option.map_eq_some_iff] at hc
  obtain⟨b',h1,rfl⟩:=hc
  simp only[aw] at h
  refine wpIn_block (wpIn_mono (ih h1 h hp R) ?_)
  rintro e a' w' ⟨ae,E',s',rfl,rfl,hQ,R',hpn,hle,hext,hs⟩
  cases ae with
  |normal=>exact⟨.normal,E',s',rfl,rfl,hQ,R',hpn,hle,hext,hs⟩
  |ret=>exact⟨.ret,E',s',rfl,rfl,hQ,R',hpn,hle,hext,hs⟩
  |exit j =>
   simp only[Xu,Exit.inBlock]
   cases hj:(j==id) with
   |true =>
    simp only[hj,cond_true] at hQ
    rw[if_pos (by simpa using hj)]
    exact⟨.normal,E',s',rfl,rfl,hQ,R',hpn,hle,hext,hs⟩
   |false =>
    simp only[hj,cond_false] at hQ
    rw[if_neg (by simpa using hj)]
    exact⟨.exit j,E',s',rfl,rfl,hQ,R',hpn,hle,hext,hs⟩
 |loop b ih =>
  intro ac hc Q E s a h hp R
  simp only[comp,Option.map_eq_some_iff] at hc
  obtain⟨b',h1,rfl⟩:=hc
  simp only[aw,yF] at h
  obtain⟨I,μ,⟨s0,hw0,hI0⟩,round⟩:=h
  obtain⟨E0,hE0,R0,ac5,hs0,hp0,hle0⟩:=hw0.sound R hp
  refine wpIn_loop_ghost (fun n a w=> ∃ E' s',E'.w=w/\I s'/\μ s'=n/\Rel F (· <s'.nx) E' s' a/\s'.pin=s.pin/\s.pin<=s'.nx/\Ext F E E'/\Same E E' (· <s.pin)) (μ s0) ?_ ?_
  ·exact⟨E0,s0,hE0,hI0,rfl,R0,hp0,by rw[<- hp0]; exact hle0,ac5,by rw[<- hp0]; exact hs0⟩
  ·rintro n a w ⟨E',s',rfl,hI,rfl,R',hpn,hle,hext,hs⟩
   have:=ih h1 (round s' hI) (by rw[hpn]; exact hle) R'
   refine wpIn_mono this ?_
   rintro e a' w' ⟨ae,YE,s'',rfl,rfl,hQ,R'',QI,hle',Dy,hs'⟩
   rw[hpn] at QI hle' hs'
   cases ae with
   |normal =>
    obtain⟨s1,hw1,hI1,hμ⟩:=hQ
    obtain⟨E1,hE1,R1,ac6,hs1,hp1,hle1⟩:=hw1.sound R'' (by rw[QI]; exact hle')
    refine⟨μ s1,hμ,E1,s1,hE1,hI1,rfl,R1,hp1.trans QI,?_,(hext.trans Dy).trans ac6,?_⟩
    ·rw[<- QI,<- hp1]; exact hle1
    ·rw[hp1,QI] at hs1
     exact(hs.trans hs' fun _ h=>h).trans hs1 fun _ h=>h
   |exit id=>exact⟨.exit id,YE,s'',rfl,rfl,hQ,R'',QI,hle',hext.trans Dy,hs.trans hs' fun _ h=>h⟩
   |ret=>exact⟨.ret,YE,s'',rfl,rfl,hQ,R'',QI,hle',hext.trans Dy,hs.trans hs' fun _ h=>h⟩
 |exit id=>intro ac hc Q E s a h hp R; cases hc; exact wpIn_exit ⟨.exit id,E,s,rfl,rfl,h,R,rfl,hp,Ext.refl _ _,Same.refl _ _⟩
 |ret=>intro ac hc Q E s a h hp R; cases hc; exact wpIn_ret ⟨.ret,E,s,rfl,rfl,h,R,rfl,hp,Ext.refl _ _,Same.refl _ _⟩
 |rangeFunc f ps x y=>intro ac hc; cases hc
 |scope b ih=>intro ac hc; cases hc
 |label l=>intro ac hc; cases hc
 |goto l=>intro ac hc; cases hc
 |refuse w=>intro ac hc; cases hc
theorem Xx{F:Fr P}(c:Code){ac:fO}(hc:comp P c=some ac){Q:oZ->AS->Prop}{E:Env}{s:AS}{a:Act}(h:aw P ac Q s)(hp:s.pin<=s.nx)(R:Rel F (· <s.nx) E s a) :
  c.wp P (Iz F E s.pin Q) a E.w:=wpIn_wide.1 (QH none c hc h hp R)
end
section
variable {P:Program}
inductive RV where
 |slot (t:Nat)
 |cell (a k:Nat)
def lH(P:Program):List ResultVar->Option (List RV)
 |[]=>some []
 | .tmp t::r=>(lH P r).map (.slot t:: ·)
 | .cell a ty::r=>match kindOf P ty,lH P r with
  |some k,some r=>some (.cell a k::r)
  |_,_=>none
def RV.val(s:AS):RV->T
 | .slot t=>s.fr.getD t T.un
 | .cell a k=>qt s (.ld k (.t a))
def RV.ok(s:AS):RV->Prop
 | .slot _=>True
 | .cell a k=>qc s (.ld k (.t a))
def DF(s:AS):List RV->Prop
 |[]=>True
 |r::rs=>r.ok s/\DF s rs
def resT(s:AS):List RV->T
 |[r]=>r.val s
 |rs=>.fH (rs.map (RV.val s))
def IB(tmps:Array Value):ResultVar->Sem Value
 | .tmp t=>pure (tmps.getD t undef)
 | .cell a t=>do loadVar t (<- asAddr (tmps.getD a undef))
theorem QJ(fn:Func)(tmps:Array Value):results fn tmps=(do let vs <- fn.results.mapM (IB tmps); pure (if h:vs.size=1 then vs[0] else .tuple vs)):=by
 unfold results
 congr 2
theorem Zv{F:Fr P}{M:Nat->Prop}{E:Env}{s:AS}{a:Act}(R:Rel F M E s a): ∀ {l:List ResultVar} {rs:List RV},lH P l=some rs->DF s rs ->
  ∃ vs,(l.mapM (IB a.tmps)).run P E.w= .ok vs E.w/\bD E (rs.map (RV.val s)) vs/\vs.length=l.length:=by
 intro l
 induction l with
 |nil=>intro rs h _; cases h; exact⟨[],by simp,by simp[bD],rfl⟩
 |cons r l ih =>
  intro rs h hok
  cases r with
  |tmp t =>
   simp only[lH,Option.map_eq_some_iff] at h
   obtain⟨rs',h1,rfl⟩:=h
   obtain⟨vs,h2,h3,h4⟩:=ih h1 hok.2
   refine⟨a.tmps.getD t undef::vs,?_,?_,by simp[h4]⟩
   ·rw[List.mapM_cons]
    simp only[IB,Sem.run_bind,Sem.run_pure,Result.andThen_ok,h2]
   ·rw[List.map_cons,bK]
    exact⟨_,_,rfl,bI R (x:=.tmp t) rfl,h3⟩
  |cell x ty =>
   simp only[lH] at h
   split at h
   ·rename_i k rs' hk h1
    cases h
    obtain⟨vs,h2,h3,h4⟩:=ih h1 hok.2
    obtain⟨v,hrun,hv⟩:=q_ld (P:=P) R (x:=.tmp x) (x':=.t x) rfl (o:=⟨none,.load ty (.tmp x),ty, "",#[],none⟩) rfl hk hok.1
    refine⟨v::vs,?_,?_,by simp[h4]⟩
    ·rw[List.mapM_cons]
     have hld:(do loadVar ty (<- asAddr (a.tmps.getD x undef)):Sem Value).run P E.w= .ok v E.w:=by
      have he:a.eval (.tmp x)=a.tmps.getD x undef:=rfl
      simp only[execOp,Instr.loadAt,he,Sem.run_bind] at hrun
      generalize a.tmps.getD x undef=u at hrun ⊢
      cases u with
      |pointer ad =>
       cases ad with
       |none=>simp[Instr.sureAddr,stuck,Result.andThen] at hrun
       |some ad =>
        simp only[Instr.sureAddr,Sem.run_pure,Result.andThen_ok] at hrun
        simp only[asAddr,Sem.run_bind,Sem.run_pure,Result.andThen_ok]
        cases hl:(loadVar ty ad).run P E.w with
        |ok v' w'=>rw[hl] at hrun; simp only[Result.andThen_ok,Result.ok.injEq,Next.value.injEq] at hrun; rw[hrun.1,hrun.2]
        |halt h w'=>rw[hl] at hrun; simp[Result.andThen] at hrun
      |_=>simp[Instr.sureAddr,stuck,Result.andThen] at hrun
     simp only[Sem.run_bind] at hld
     simp only[IB,Sem.run_bind,hld,Result.andThen_ok,h2,Sem.run_pure]
    ·rw[List.map_cons,bK]
     exact⟨_,_,rfl,hv,h3⟩
   ·cases h
theorem Oo{F:Fr P}{M:Nat->Prop}{E:Env}{s:AS}{a:Act}(R:Rel F M E s a){fn:Func}{rs:List RV}(hc:lH P fn.results.toList=some rs)(hok:DF s rs) :
  ∃ v,(results fn a.tmps).run P E.w= .ok v E.w/\je E (resT s rs) v:=by
 obtain⟨vs,h1,h2,h3⟩:=Zv R hc hok
 have hm:(fn.results.mapM (IB a.tmps)).run P E.w= .ok vs.toArray E.w:=by
  rw[Array.mapM_eq_mapM_toList]
  simp[h1]
 have hl:rs.length=vs.length:=by have:=nJ h2; simpa using this.symm
 rw[QJ]
 simp only[Sem.run_bind,hm]
 simp only[Result.andThen_ok,Sem.run_pure]
 refine⟨_,rfl,?_⟩
 cases rs with
 |nil =>
  have:vs=[]:=List.eq_nil_of_length_eq_zero (by simpa using hl.symm)
  subst this
  simp only[resT]
  rw[dif_neg (by simp),aA rfl]
  simp only[aJ]; exact⟨#[],rfl,by simpa using h2⟩
 |cons r rs =>
  cases rs with
  |nil =>
   simp only[List.map_cons,List.map_nil,bK] at h2
   obtain⟨v,q,rfl,hv,hq⟩:=h2
   simp[bD] at hq; subst hq
   simpa [resT] using hv
  |cons r' rs =>
   have hne:vs.length≠1:=by simp at hl; omega
   rw[dif_neg (by simpa using hne)]
   show je E (.fH ((r::r'::rs).map (RV.val s))) _
   rw[aA rfl]
   simp only[aJ]; exact⟨vs.toArray,rfl,by simpa using h2⟩
def UM(h:Hp)(N:Nat->Prop)(post:T->Hp->Prop)(rs:List RV)(s:AS):Prop :=
 DF s rs/\ ∃ (Z:Nat->Prop) (ρ:Nat->Nat) (t:T) (h':Hp),post t h'/\T.sub Z s.hp (t.ren ρ) (resT s rs)/\(∀ i ob,h' i=some ob-> ∃ ob',s.hp (ρ i)=some ob'/\ ¬ Z (ρ i)/\Gj Z s.hp ρ ob ob') /\
  (∀ i j,(h' i).isSome=true->(h' j).isSome=true->ρ i=ρ j->i=j)/\t.ids (fun i=>(h i).isSome=true\/N i)/\mD (fun i=>(h i).isSome=true\/N i) h' /\
  ∀ i,(h i).isSome=true->(h' i).isSome=true->ρ i=i
def Ret(h:Hp)(n:Nat)(post:T->Hp->Prop)(rs:List RV)(s:AS):Prop:=UM h (fun i=>i=n) post rs s
def Xy(h:Hp)(N:Nat->Prop)(post:T->Hp->Prop)(rs:List RV):oZ->AS->Prop
 | .exit _,_=>False
 |_,s=> ∃ s1,FK s1 s/\UM h N post rs s1
def Done(h:Hp)(n:Nat)(post:T->Hp->Prop)(rs:List RV):oZ->AS->Prop
 | .exit _,_=>False
 |_,s=> ∃ s1,FK s1 s/\Ret h n post rs s1
def DI(F:Fr P)(M:Nat->Prop)(E:Env)(N:Nat->Prop)(post:T->Hp->Prop)(e:Ending)(w':World):Prop :=
 ∃ v t E',e= .returned v/\E'.w=w'/\post t E'.h/\je E' t v/\oP F E'/\Ext F E E'/\Same E E' M /\
  t.ids (fun i=>M i\/N i)/\mD (fun i=>M i\/N i) E'.h
def Fr.defs(F:Fr P)(d:List Deferred):Fr P:= {s:=F.s,dl:=d}
theorem oP.dl{F:Fr P}{E:Env}(d:List Deferred)(h:oP F E):oP (F.defs d) E:=⟨h.obs,h.out,h.sep,h.slt,h.flt,h.sf,h.gl⟩
theorem oP.Xz{F:Fr P}{E:Env}{d:List Deferred}(h:oP (F.defs d) E):oP F E:=⟨h.obs,h.out,h.sep,h.slt,h.flt,h.sf,h.gl⟩
theorem Ext.Xz{F:Fr P}{E E':Env}{d:List Deferred}(h:Ext (F.defs d) E E'):Ext F E E':=⟨h.s,h.w,h.size,h.os,h.tape,h.output,h.y⟩
theorem UM.ends{fn:Func}{rs:List RV}{h:Hp}{N:Nat->Prop}{nx:Nat}{post:T->Hp->Prop}{F:Fr P}{M:Nat->Prop}{E E':Env}{s':AS}{a':Act}(hr:lH P fn.results.toList=some rs)(hh:mD (· <nx) h)(hm:mD M h)(hn: ∀ i,M i-> ¬ N i)
  (R':Rel F (· <s'.nx) E' s' a') (hext:Ext F E E') (hs:Same E E' (· <nx)) (hret:UM h N post rs s'): ∃ v,(results fn a'.tmps).run P E'.w= .ok v E'.w/\DI F M E N post (.returned v) E'.w:=by
 obtain⟨hok,Z,ρ,t,h',hpost,hsub,UN,hinj,N8,QK,hfix⟩:=hret
 obtain⟨v,hrun,hv⟩:=Oo R' hr hok
 refine⟨v,hrun,v,t,(E'.shut Z).ren ρ h',rfl,rfl,hpost,?_,?_,?_,?_,T.bG (fun i hi=>?_) _ N8,fun i ob hi=>?_⟩
 ·have hl: ∀ i,(h' i).isSome=true->((E'.shut Z).h (ρ i)).isSome=true:=fun i hi=>by
   obtain⟨ob,hob⟩:=Option.isSome_iff_exists.1 hi
   obtain⟨ob',h1,h2,_⟩:=UN i ob hob
   rw[vP h2,R'.he,h1]; rfl
  rw[<- R'.he] at hsub
  have hv':=Oj R'.hk hsub hv
  rcases hv' with ⟨h1,cs,h2,h3⟩|⟨h1,h2⟩
  ·exact .inl ⟨by rw[<- oO ρ]; exact h1,cs,h2,vH hl t _ h3⟩
  ·exact .inr ⟨by rw[<- oO ρ]; exact h1,vH hl t _ h2⟩
 ·exact R'.hk.ren (fun i ob hi=>by rw[R'.he]; exact UN i ob hi) hinj
 ·exact⟨fun g hg=>.inl (hext.s g hg),hext.w,hext.size,hext.os,hext.tape,hext.output,hext.y⟩
 ·intro i hi hsome
  obtain⟨ob,hob⟩:=Option.isSome_iff_exists.1 hsome
  have ac7:(h i).isSome=true:=(QK i ob hob).1.resolve_right fun e=>hn i hi e
  have hρ:=hfix i ac7 hsome
  obtain⟨oi,hoi⟩:=Option.isSome_iff_exists.1 ac7
  obtain⟨ob',dS,_⟩:=UN i ob hob
  rw[hρ] at dS
  have:=hs i (hh i oi hoi).1 (by rw[R'.he,dS]; rfl)
  refine⟨this.1,?_,?_⟩
  ·show E'.φ (ρ i)=_; rw[hρ]; exact this.2.1
  ·show E'.κ (ρ i)=_; rw[hρ]; exact this.2.2
 ·rcases hi with hi|hi
  ·obtain⟨oi,hoi⟩:=Option.isSome_iff_exists.1 hi
   exact .inl (hm i oi hoi).1
  ·exact .inr hi
 ·have hconv: ∀ i,((h i).isSome=true\/N i)->M i\/N i:=fun i hi=>by
   rcases hi with hi|hi
   ·obtain⟨oi,hoi⟩:=Option.isSome_iff_exists.1 hi
    exact .inl (hm i oi hoi).1
   ·exact .inr hi
  exact⟨hconv i (QK i ob hi).1,T.ay hconv _ (QK i ob hi).2⟩
theorem XA{E:Env}: ∀ k,bD E (List.replicate k T.un) (List.replicate k undef):=by
 intro k
 induction k with
 |zero=>simp[bD]
 |succ k ih=>rw[List.replicate_succ,List.replicate_succ,bK]; exact⟨_,_,rfl,by rw[aK]; rfl,ih⟩
theorem Rel.enter{F:Fr P}{E:Env}{ts:List T}{vs:List Value}{h:Hp}{nx nt:Nat}(hdl:F.dl=[])(hk:oP F E)(he:E.h=h)(hrep:bD E ts vs)(hts:T.aO (· <nx) ts)(hh:mD (· <nx) h) :
  Rel F (· <nx) E ⟨ts++List.replicate (nt-ts.length) T.un,h,nx,nx⟩ {tmps:=vs.toArray++Array.replicate (nt-vs.toArray.size) undef,defers:=[]}:=by
 have hlen:=nJ hrep
 refine⟨hk,he,?_,hdl.symm,eH.2 ⟨hts,bQ.2 fun t ht=>by rw[List.eq_of_mem_replicate ht]; simp[T.ids]⟩,hh⟩
 have:=Dc hrep (XA (E:=E) (nt-ts.length))
 simpa [hlen] using this
theorem Zw{fn:Func}{c:Code}{ac:fO}{rs:List RV}{ts:List T}{h:Hp}{N:Nat->Prop}{nx nt:Nat}{post:T->Hp->Prop}(hc:comp P c=some ac)
  (hr:lH P fn.results.toList=some rs) (hnt:fn.ntmps=nt) (hts:T.aO (· <nx) ts) (hh:mD (· <nx) h)
  (H:aw P ac (Xy h N post rs) ⟨ts++List.replicate (nt-ts.length) T.un,h,nx,nx⟩) (F:Fr P) (M:Nat->Prop) (E:Env) (vs:List Value) (hdl:F.dl=[]) (hk:oP F E) (he:E.h=h) (hrep:bD E ts vs) (hm:mD M h) (hn: ∀ i,M i-> ¬ N i) :
  c.wp P (bodyPost P fn (DI F M E N post)) {tmps:=vs.toArray++Array.replicate (fn.ntmps-vs.toArray.size) undef,defers:=[]} E.w:=by
 subst hnt
 refine wp_mono (Xx c hc H (Nat.le_refl _) (Rel.enter hdl hk he hrep hts hh)) ?_
 rintro e a' w' ⟨ae,E',s',rfl,rfl,hQ,R',hpn,hle,hext,hs⟩
 have key:(∃ s1,FK s1 s'/\UM h N post rs s1)->a'.defers=[]/\ ∃ v,(results fn a'.tmps).run P E'.w= .ok v E'.w/\DI F M E N post (.returned v) E'.w:=by
  rintro⟨s1,hN,hret⟩
  obtain⟨E1,hw1,R1,hx1,hs1,hp1,_⟩:=hN.sound R' (by rw[hpn]; exact hle)
  refine⟨R'.df.trans hdl,?_⟩
  rw[<- hw1]
  exact hret.ends hr hh hm hn R1 (hext.trans hx1) (hs.trans hs1 (M':=(· <s1.pin)) fun i hi=>by rw[hp1,hpn]; exact hi)
 cases ae with
 |normal=>exact key hQ
 |ret=>exact key hQ
 |exit id=>exact hQ.elim
theorem DI.Xz{F:Fr P}{M:Nat->Prop}{E:Env}{N:Nat->Prop}{post:T->Hp->Prop}{d:List Deferred}{e:Ending}{w':World}:DI (F.defs d) M E N post e w'->DI F M E N post e w':=by
 rintro⟨v,t,E',r1,r2,r3,r4,r5,r6,r7⟩
 exact⟨v,t,E',r1,r2,r3,r4,r5.Xz,r6.Xz,r7⟩
theorem AY{f:FuncId}{fn:Func}{c:Code}{ac:fO}{rs:List RV}{ts:List T}{h:Hp}{N:Nat->Prop}{nx nt:Nat}{post:T->Hp->Prop}(hf:P.funcs[f]? =some fn)(hb:fn.body=some c)(hc:comp P c=some ac)
  (hr:lH P fn.results.toList=some rs) (hnt:fn.ntmps=nt) (hts:T.aO (· <nx) ts) (hh:mD (· <nx) h)
  (H:aw P ac (Xy h N post rs) ⟨ts++List.replicate (nt-ts.length) T.un,h,nx,nx⟩) (F:Fr P) (M:Nat->Prop) (E:Env) (vs:List Value) (hk:oP F E) (he:E.h=h) (hrep:bD E ts vs) (hm:mD M h) (hn: ∀ i,M i-> ¬ N i) :
  Calls P f vs.toArray E.w (DI F M E N post) :=
 (calls_of_wp hf hb (Zw hc hr hnt hts hh H (F.defs []) M E vs rfl (hk.dl []) he hrep hm hn)).mono fun _ _ h=>h.Xz
theorem aP.Ae{f:FuncId}{fn:Func}{c:Code}{ac:fO}{rs:List RV}{ts:List T}{h:Hp}{n nx nt:Nat}{post:T->Hp->Prop}(hf:P.funcs[f]? =some fn)(hb:fn.body=some c)(hc:comp P c=some ac)
  (hr:lH P fn.results.toList=some rs) (hcl:callable P f) (hnt:fn.ntmps=nt) (hin: ∃ t h',post t h') (hts:T.aO (· <nx) ts) (hh:mD (· <nx) h)
  (H:aw P ac (Done h n post rs) ⟨ts++List.replicate (nt-ts.length) T.un,h,nx,nx⟩):aP P f ts h n post :=
 ⟨hin,hcl,fun F M E vs hk he hrep _ hm hn=>AY (N:=fun i=>i=n) hf hb hc hr hnt hts hh H F M E vs hk he hrep hm fun _ hi e=>hn (e▸hi)⟩
theorem kF.Ae{f:FuncId}{fn:Func}{c:Code}{ac:fO}{rs:List RV}{ts:List T}{h:Hp}{n k nx nt:Nat}{post:T->Hp->Prop}(hf:P.funcs[f]? =some fn)(hb:fn.body=some c)(hc:comp P c=some ac)
  (hr:lH P fn.results.toList=some rs) (hcl:callable P f) (hnt:fn.ntmps=nt) (hin: ∃ t h',post t h') (hts:T.aO (· <nx) ts) (hh:mD (· <nx) h)
  (H:aw P ac (Xy h (fun i=>n<=i/\i<=n+k) post rs) ⟨ts++List.replicate (nt-ts.length) T.un,h,nx,nx⟩):kF P f ts h n k post :=
 ⟨hin,hcl,fun F M E vs hk he hrep _ hm hn=>AY (N:=fun i=>n<=i/\i<=n+k) hf hb hc hr hnt hts hh H F M E vs hk he hrep hm fun i hi e=>by have:=hn i hi; omega⟩
end
end Go.Ab
