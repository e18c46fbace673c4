/-
 fair and its reference: families, kinds, rules. No condition.
-/
import Derived.Test.YtajmbgljnaljiaaGreatDoorFa
import Derived.Test.YtajmbgljnaljiaaGreatDoorRb
namespace Go.Proofs.YtajmbgljnaljiaaGreatDoor
open Go.Ab Go.Proofs
set_option maxRecDepth 100000
def EW(p:aO):Int:=bif dH p !=0 then dH p else bif (qF p).monadic then 0 else 7
theorem cf1(p:aO):EW p=bif ((dH p==0)&& !(bif dH p !=0 then XD else qF p).monadic) then 7 else dH p:=by
 unfold EW bne
 cases hz:dH p==0 with
 |true =>
  simp only[Bool.not_true,cond_false,Bool.true_and]
  cases (qF p).monadic<;>simp[show dH p=0 from beq_iff_eq.1 hz]
 |false=>rfl
def xE(p:aO)(q:Prop'):Int:=bif jf p q !=0 then jf p q else EW p
def OD(p:aO)(q:Prop')(k:Int):Int:=bif (xE p q==0)&&(q.kind !=k) then 7 else xE p q
theorem S.iV(p:aO)(hp:fG p):aj Tryz.prog 69 [.dat (.kS p)] (.int (EW p)):=by
 refine aj.of Bd.iV (by simp) rfl rfl ?_
 conv=>whnf
 refine ah.pure (S.iC p hp) rfl ?_
 conv=>whnf
 repeat(refine VC.mk id ?_; conv=>whnf)
 refine⟨fun h1=>?_,fun h1=>?_⟩
 ·conv=>whnf
  exact ak.int (by rw[cf1,h1]; rfl)
 ·conv=>whnf
  exact ak.int (by rw[cf1,h1]; rfl)
theorem S.o7(p:aO)(q:Prop')(hp:fG p)(hq:iW q):aj Tryz.prog 41 [.dat (.kS p),.dat (.prop q)] (.int (xE p q)):=by
 refine aj.of Bd.o7 (by simp) rfl rfl ?_
 conv=>whnf
 refine ah.pure (S.dw p q hp hq) rfl ?_
 conv=>whnf
 refine⟨fun h1=>?_,fun h1=>?_⟩
 ·conv=>whnf
  exact ak.int (by rw[xE,h1]; rfl)
 ·conv=>whnf
  refine ah.pure (S.iV p hp) rfl ?_
  conv=>whnf
  exact ak.int (by rw[xE,h1]; rfl)
theorem S.jL(p:aO)(q:Prop')(k:Int)(hp:fG p)(hq:iW q):aj Tryz.prog 22 [.dat (.kS p),.dat (.prop q),.int k] (.int (OD p q k)):=by
 refine aj.of Bd.jL (by simp) rfl rfl ?_
 conv=>whnf
 refine ah.pure (S.o7 p q hp hq) rfl ?_
 conv=>whnf
 repeat(refine VC.mk (by first|exact id|exact fun h=>⟨h,h⟩) ?_; conv=>whnf)
 refine⟨fun h1=>?_,fun h1=>?_⟩
 ·conv=>whnf
  exact ak.int (by rw[OD,h1]; rfl)
 ·conv=>whnf
  exact ak.int (by rw[OD,h1]; rfl)
theorem S.o8(p:aO)(hp:fG p):aj Tryz.prog 82 [.dat (.kS p)] (.int (EW p)):=by
 refine aj.of Bd.o8 (by simp) rfl rfl ?_
 conv=>whnf
 refine ah.pure (S.lJ p hp) rfl ?_
 conv=>whnf
 refine⟨fun h1=>?_,fun h1=>?_⟩
 ·conv=>whnf
  exact ak.int (by rw[EW,h1]; rfl)
 ·conv=>whnf
  refine⟨fun h2=>?_,fun h2=>?_⟩
  ·conv=>whnf
   exact ak.int (by rw[h1] at h2; rw[EW,h1]; simp only[cond_false] at h2 ⊢; rw[show(qF p).monadic=false by simpa using h2]; rfl)
  ·conv=>whnf
   exact ak.int (by rw[h1] at h2; rw[EW,h1]; simp only[cond_false] at h2 ⊢; rw[show(qF p).monadic=true by simpa using h2]; rfl)
theorem S.rD(p:aO)(q:Prop')(hp:fG p)(hq:iW q):aj Tryz.prog 50 [.dat (.kS p),.dat (.prop q)] (.int (xE p q)):=by
 refine aj.of Bd.rD (by simp) rfl rfl ?_
 conv=>whnf
 refine ah.pure (S.dX p q hp hq) rfl ?_
 conv=>whnf
 refine⟨fun h1=>?_,fun h1=>?_⟩
 ·conv=>whnf
  exact ak.int (by rw[xE,h1]; rfl)
 ·conv=>whnf
  refine ah.pure (S.o8 p hp) rfl ?_
  conv=>whnf
  exact ak.int (by rw[xE,h1]; rfl)
theorem S.uU(p:aO)(q:Prop')(k:Int)(hp:fG p)(hq:iW q):aj Tryz.prog 25 [.dat (.kS p),.dat (.prop q),.int k] (.int (OD p q k)):=by
 refine aj.of Bd.uU (by simp) rfl rfl ?_
 conv=>whnf
 refine ah.pure (S.rD p q hp hq) rfl ?_
 conv=>whnf
 repeat(refine VC.mk (by first|exact id|exact fun h=>⟨h,h⟩) ?_; conv=>whnf)
 refine⟨fun h1=>?_,fun h1=>?_⟩
 ·conv=>whnf
  exact ak.int (by rw[OD,h1]; rfl)
 ·conv=>whnf
  exact ak.int (by rw[OD,h1]; rfl)
def le2(n:Int):Bool:= !(decide (2<n))
theorem wV{p:aO}(h:EW p=0):aaO p=0:=by
 unfold EW at h
 unfold aaO
 cases hv:(dH p !=0) with
 |true=>rw[hv] at h; simp only[cond_true] at h; rw[h] at hv; simp at hv
 |false =>
  rw[hv] at h
  simp only[cond_false] at h ⊢
  cases hm:(qF p).monadic with
  |true=>simp
  |false=>rw[hm] at h; cases h
def qh(l:List Int):List Int:=l.map fun n=>min n 2
def Rt(e:Elem):Elem:=⟨e.value,qh e.counts⟩
def OI(l:List Int)(i:Nat):List Int:=qh (l.take i)++List.replicate (l.length-i) 0
theorem XE(l:List Int)(i:Nat)(hi:i<=l.length):(OI l i).length=l.length:=by simp[OI,qh]; omega
theorem Vq{l:List Int}{i:Nat}(hi:i<l.length):(OI l i).set i (min (l.getD i 0) 2)=OI l (i+1):=by
 have e1:l.length-i=(l.length-(i+1))+1:=by omega
 have e2:l.take (i+1)=l.take i++[l.getD i 0]:=by rw[List.take_add_one]; simp[hi]
 unfold OI
 rw[e1,List.replicate_succ,List.set_append_right _ _ (by simp[qh]; omega)]
 have:i-(qh (l.take i)).length=0:=by simp[qh]; omega
 rw[this,List.set_cons_zero,e2]
 simp[qh]
theorem XF(l:List Int):OI l l.length=qh l:=by simp[OI]
theorem S.kT(e:Elem)(h0:0<e.counts.length)(he:e.counts.length<2^30):aj Tryz.prog 77 [.dat (.elem e)] (.dat (.elem (Rt e))):=by
 refine aj.of Bd.kT (by simp) rfl rfl ?_
 conv=>whnf
 have hm:=Dy (n:=e.counts.length) (by omega)
 rw[hm]
 conv=>whnf
 refine .mk (by omega) ?_
 conv=>whnf
 refine aI.nZ 15 [2,3,14,15] (fun i:Nat=>[(16,.int i)]) (fun i=>[(0,.box 54 3 (.dat (.elem e))),(1,.box 54 3 (.agg [.int 0,.row 0 true .nil])),(7,vZ (OI e.counts i)),(9,.box 54 3 (.agg [.int e.value,.own 7]))]) (fun i=>i<=e.counts.length) (fun i=>e.counts.length-i) 0 [0,1,7,9] rfl (by decide) (fun _=>rfl) (Nat.zero_le _) ?_ ?_ ?_
 ·exact⟨⟨_,rfl,.eq rfl⟩,trivial⟩
 ·exact⟨okF rfl nofun rfl rfl rfl ⟨rfl,rfl⟩ rfl,okF rfl nofun rfl rfl rfl ⟨rfl,rfl⟩ rfl,okF rfl nofun rfl rfl rfl ⟨rfl,rfl⟩ rfl,⟨rfl,nofun,rfl,rfl,_,rfl,rfl,rfl,dN.of_eq rfl⟩,trivial⟩
 conv=>whnf
 refine⟨⟨⟨_,rfl,.eq rfl⟩,⟨_,rfl,.eq rfl⟩,⟨_,rfl,.eq rfl⟩,⟨_,rfl,.eq rfl⟩,trivial⟩,rfl,?_⟩
 rintro i hi
 have hRl:=XE e.counts i hi
 conv=>whnf
 refine⟨fun g1=>?_,fun g1=>?_⟩
 ·have hi':i<e.counts.length:=by simpa using g1
  conv=>whnf
  repeat(refine VC.mk (by first|(simp only[Rw.rng,Int.toNat_natCast]; omega)|(simp only[okI,Int.toNat_natCast] at *; omega)) ?_; conv=>whnf)
  refine⟨i+1,[0,1,7,9],by omega,by omega,⟨⟨_,rfl,.eq rfl⟩,trivial⟩,⟨⟨_,rfl,.eq rfl⟩,⟨_,rfl,.eq rfl⟩,⟨_,rfl,.eq rfl⟩,⟨_,rfl,.eq rfl⟩,trivial⟩,okF rfl nofun rfl rfl rfl ⟨rfl,rfl⟩ rfl,okF rfl nofun rfl rfl rfl ⟨rfl,rfl⟩ rfl,okF rfl nofun rfl rfl rfl ⟨rfl,rfl⟩ ?_,⟨rfl,nofun,rfl,rfl,_,rfl,rfl,rfl,dN.of_eq rfl⟩,trivial⟩
  rw[<- Vq hi']; rfl
 ·have hi':i=e.counts.length:=by
   have: ¬ ((i:Int)<(e.counts.length:Int)):=of_decide_eq_false g1
   omega
  subst hi'
  rw[XF]
  conv=>whnf
  exact ak.elem rfl
def EX(l:List Int)(i:Nat):List Int:=qh (l.take i)++l.drop i
theorem XG(l:List Int)(i:Nat):(EX l i).length=l.length:=by simp[EX,qh]; omega
theorem XI{l:List Int}{i:Nat}(hi:i<l.length):(EX l i).getD i 0=l.getD i 0:=by
 unfold EX
 have h:(qh (l.take i)).length=i:=by simp[qh]; omega
 rw[List.getD_eq_getElem?_getD,List.getElem?_append_right (by omega),h,Nat.sub_self,List.getElem?_drop]
 simp[List.getD_eq_getElem?_getD]
theorem Vr{l:List Int}{i:Nat}(hi:i<l.length):(EX l i).set i (min ((EX l i).getD i 0) 2)=EX l (i+1):=by
 rw[XI hi]
 have e2:l.take (i+1)=l.take i++[l.getD i 0]:=by rw[List.take_add_one]; simp[hi]
 have h:(qh (l.take i)).length=i:=by simp[qh]; omega
 unfold EX
 rw[List.drop_eq_getElem_cons hi,List.set_append_right _ _ (by omega),h,Nat.sub_self,List.set_cons_zero,e2]
 simp[qh]
theorem XJ(l:List Int):EX l l.length=qh l:=by simp[EX]
theorem S.o9(e:Elem)(he:e.counts.length<2^30):aj Tryz.prog 88 [.dat (.elem e)] (.dat (.elem (Rt e))):=by
 refine aj.of Bd.o9 (by simp) rfl rfl ?_
 conv=>whnf
 refine ah.heap (qY.frame (S.AA e he) _ _) ?_
 rintro t hp' ⟨rfl,rfl⟩
 refine⟨.agg [.int e.value,.own 3],(3,some (vZ e.counts))::_,rfl,GY,?_⟩
 conv=>whnf
 refine aI.nZ 7 [2,3] (fun i:Nat=>[(4,.int i)]) (fun i=>[(0,.box 54 3 (.dat (.elem e))),(1,.box 54 3 (.agg [.int 0,.row 0 true .nil])),(3,vZ (EX e.counts i)),(4,.box 54 3 (.agg [.int e.value,.own 3]))]) (fun i=>i<=e.counts.length) (fun i=>e.counts.length-i) 0 [0,1,3,4] rfl (by decide) (fun _=>rfl) (Nat.zero_le _) ?_ ?_ ?_
 ·exact⟨⟨_,rfl,.eq rfl⟩,trivial⟩
 ·exact⟨okF rfl nofun rfl rfl rfl ⟨rfl,rfl⟩ rfl,okF rfl nofun rfl rfl rfl ⟨rfl,rfl⟩ rfl,okF rfl nofun rfl rfl rfl ⟨rfl,rfl⟩ rfl,⟨rfl,nofun,rfl,rfl,_,rfl,rfl,rfl,dN.of_eq rfl⟩,trivial⟩
 conv=>whnf
 refine⟨⟨⟨_,rfl,.eq rfl⟩,⟨_,rfl,.eq rfl⟩,trivial⟩,rfl,?_⟩
 rintro i hi
 have hRl:=XG e.counts i
 conv=>whnf
 refine⟨fun g1=>?_,fun g1=>?_⟩
 ·have hi':i<e.counts.length:=by
   have:(i:Int)<((EX e.counts i).length:Int):=of_decide_eq_true g1
   omega
  conv=>whnf
  repeat(refine VC.mk (by first|(simp only[Rw.rng,Int.toNat_natCast]; omega)|(simp only[okI] at *; omega)) ?_; conv=>whnf)
  refine⟨i+1,[0,1,3,4],by omega,by omega,⟨⟨_,rfl,.eq rfl⟩,trivial⟩,⟨⟨_,rfl,.eq rfl⟩,⟨_,rfl,.eq rfl⟩,trivial⟩,okF rfl nofun rfl rfl rfl ⟨rfl,rfl⟩ rfl,okF rfl nofun rfl rfl rfl ⟨rfl,rfl⟩ rfl,okF rfl nofun rfl rfl rfl ⟨rfl,rfl⟩ ?_,⟨rfl,nofun,rfl,rfl,_,rfl,rfl,rfl,dN.of_eq rfl⟩,trivial⟩
  rw[<- Vr hi']; rfl
 ·have hi':i=e.counts.length:=by
   have: ¬ ((i:Int)<((EX e.counts i).length:Int)):=of_decide_eq_false g1
   omega
  subst hi'
  rw[XJ]
  conv=>whnf
  exact ak.elem rfl
end Go.Proofs.YtajmbgljnaljiaaGreatDoor
namespace Go.Proofs.YtajmbgljnaljiaaGreatDoor
open Go.Ab Go.Proofs
set_option maxRecDepth 100000
structure WtR(n:Nat)(r:Rule):Prop where
 place:zK n r
 ag6:r.response.length<=n
 ag7:qG n r.response
 ag8:r.kind≠3->r.response=[]
theorem agl{p:aO}{i:Nat}(hv:MO p)(ht:p.topology=1)(hi:i<p.rules.length):WtR p.states.length (p.rules.getD i default):=by
 have hF:=acQ hv ht hi
 have hn:(p.rules.getD i default).kind≠3->(p.rules.getD i default).response=[]:=by
  have h:=hv.rule i hi
  simp only[ig,oQ] at h
  generalize (p.rules.getD i default)=r at h ⊢
  obtain⟨_,h⟩:=bz (fun _=>by decide) h
  obtain⟨hb,h⟩:=bz (fun _=>by decide) h
  rw[ht,Bool.or_eq_false_iff] at hb
  have hk:=KG (show sQ r.kind 1=true by simpa using hb.1)
  have hu:kE r 1=false:=by rw[uV (by omega)]; exact hb.2
  intro k3
  simp only[kE,MP,Bool.or_eq_false_iff] at hu
  have h4:=hu.2.2.2.1
  simp only[beq_eq_false_iff_ne.2 k3,Bool.not_false,Bool.true_and] at h4
  exact len_nil h4.1
 refine⟨hF.place,?_,?_,hn⟩
 ·by_cases k:(p.rules.getD i default).kind=3
  ·rw[(hF.place.rsp k).1]; exact Nat.le_refl _
  ·rw[hn k]; exact Nat.zero_le _
 ·by_cases k:(p.rules.getD i default).kind=3
  ·exact(hF.place.rsp k).2
  ·rw[hn k]; intro q hq; cases hq
theorem wtR{p:aO}(h:EW p=0){i:Nat}(hi:i<p.rules.length):WtR p.states.length (p.rules.getD i default):=by
 obtain⟨h1,h2⟩:=mJ (wV h)
 exact agl (rE h1) (KH h2) hi
def wt(w:List Int)(x:Int):Int:=w.getD x.toNat 0
def XK(r:Rule)(w:List Int):Int:=bif r.kind==2 then(wt w r.to-wt w r.fr)+(wt w r.AB-wt w r.gB) else wt w r.to-wt w r.fr
theorem KI{n:Nat}{l:List Int}(h:qG n l){i:Nat}(hi:i<l.length):0<=l.getD i 0/\l.getD i 0<n:=by
 rw[List.getD_eq_getElem?_getD,List.getElem?_eq_getElem hi]; exact h _ (List.getElem_mem hi)
def sumW(c w:List Int)(i:Nat):Int:=(List.range i).foldl (fun a j=>a+c.getD j 0*w.getD j 0) 0
theorem xF{c w:List Int}{i:Nat}:sumW c w (i+1)=sumW c w i+c.getD i 0*w.getD i 0:=by
 unfold sumW; rw[List.range_succ,List.foldl_append]; rfl
theorem Dz{c:List Int}{i j:Nat}{v:Int}(hi:i<c.length):(c.set i v).getD j 0=if j=i then v else c.getD j 0:=by
 rw[List.getD_eq_getElem?_getD,List.getD_eq_getElem?_getD]
 by_cases e:j=i
 ·subst e; simp[hi]
 ·rw[if_neg e,List.getElem?_set_ne (fun h=>e h.symm)]
theorem OJ{c w:List Int}{i:Nat}{v:Int}(hi:i<c.length): ∀ {n:Nat},sumW (c.set i v) w n=sumW c w n+(if i<n then(v-c.getD i 0)*w.getD i 0 else 0):=by
 intro n
 induction n with
 |zero=>simp[sumW]
 |succ n ih =>
  rw[xF,xF,ih,Dz hi]
  by_cases e:n=i
  ·subst e
   rw[if_pos rfl,if_neg (Nat.lt_irrefl _),if_pos (Nat.lt_succ_self _),Int.sub_mul]; omega
  ·rw[if_neg e]
   by_cases h:i<n
   ·rw[if_pos h,if_pos (by omega)]; omega
   ·rw[if_neg h,if_neg (by omega)]; omega
theorem OL{c w:List Int}{i d:Int}(hi:0<=i/\i<c.length):sumW (gU c i d) w c.length=sumW c w c.length+d*wt w i:=by
 unfold gU wt
 rw[OJ (by omega),if_pos (by omega)]
 have:c.getD i.toNat 0+d-c.getD i.toNat 0=d:=by omega
 rw[this]
theorem H9{c w:List Int}{i:Int}(hi:0<=i/\i<c.length):sumW (aQ c i) w c.length=sumW c w c.length-wt w i:=by
 unfold aQ wt
 rw[OJ (by omega),if_pos (by omega)]
 have:c.getD i.toNat 0-1-c.getD i.toNat 0= -1:=by omega
 rw[this]; omega
def Vs(r:Rule)(c w:List Int)(k:Nat):Int:=(List.range k).foldl (fun a j=>a+c.getD j 0*wt w (r.response.getD j 0)) 0
theorem KJ{r:Rule}{c w:List Int}{k:Nat}:Vs r c w (k+1)=Vs r c w k+c.getD k 0*wt w (r.response.getD k 0):=by
 unfold Vs; rw[List.range_succ,List.foldl_append]; rfl
theorem Vt{n w:Nat}{l:List Int}:sumW (List.replicate n 0) l w=0:=by
 induction w with
 |zero=>rfl
 |succ w ih =>
  rw[xF,ih,List.getD_eq_getElem?_getD]
  have:((List.replicate n (0:Int))[w]?.getD 0)=0:=by
   rw[List.getElem?_replicate]; split<;>rfl
  rw[this]; simp
theorem XL{r:Rule}{c w:List Int}(hr:qG c.length r.response): ∀ {k:Nat},k<=r.response.length->sumW (oH r c k) w c.length=Vs r c w k:=by
 intro k
 induction k with
 |zero=>intro _; exact Vt
 |succ k ih =>
  intro hk
  have hl:=qH (r:=r) (c:=c) (i:=k)
  have:=OL (c:=oH r c k) (w:=w) (i:=r.response.getD k 0) (d:=c.getD k 0) (by rw[hl]; exact KI hr (by omega))
  rw[hl] at this
  rw[uH,this,ih (by omega),KJ]
theorem XM{r:Rule}{e x:Elem}(w:List Int)(hr:WtR e.counts.length r)(hx:gG r e=some x):sumW x.counts w e.counts.length =
  if r.kind=3 then Vs r (aQ e.counts r.fr) w e.counts.length+wt w r.to else sumW e.counts w e.counts.length+XK r w:=by
 have p1:=hr.place.src; have p2:=hr.place.dst; have p3:=hr.place.aaP; have p4:=hr.place.aaQ
 have d1:=H9 (w:=w) p1
 have l1:(aQ e.counts r.fr).length=e.counts.length:=nS
 have a1: ∀ {c:List Int} {i d:Int},c.length=e.counts.length->0<=i/\i<e.counts.length->sumW (gU c i d) w e.counts.length=sumW c w e.counts.length+d*wt w i:=by
  intro c i d hl hi
  have:=OL (c:=c) (w:=w) (d:=d) (by rw[hl]; exact hi)
  rw[hl] at this; exact this
 have b1: ∀ {c:List Int} {i:Int},c.length=e.counts.length->0<=i/\i<e.counts.length->sumW (aQ c i) w e.counts.length=sumW c w e.counts.length-wt w i:=by
  intro c i hl hi
  have:=H9 (c:=c) (w:=w) (by rw[hl]; exact hi)
  rw[hl] at this; exact this
 unfold gG at hx
 simp only at hx
 cases h0:(decide (0<=r.read)&&e.value !=r.read||e.counts.getD r.fr.toNat 0==0) with
 |true=>rw[h0] at hx; cases hx
 |false =>
  rw[h0] at hx
  simp only[cond_false] at hx
  cases k1:r.kind==1 with
  |true =>
   have k1':r.kind=1:=by simpa using k1
   rw[k1] at hx
   simp only[cond_true] at hx
   cases ha:wW r (aQ e.counts r.fr) with
   |false=>rw[ha] at hx; cases hx
   |true =>
    rw[ha] at hx
    simp only[Bool.not_true,cond_false,Option.some.injEq] at hx
    subst hx
    rw[if_neg (by omega),a1 l1 p2,b1 rfl p1,XK,show(r.kind==2)=false by rw[k1']; rfl]
    simp only[cond_false]; omega
  |false =>
   rw[k1] at hx
   simp only[cond_false] at hx
   cases k2:r.kind==2 with
   |true =>
    have k2':r.kind=2:=by simpa using k2
    rw[k2] at hx
    simp only[cond_true] at hx
    cases ha:((aQ e.counts r.fr).getD r.gB.toNat 0==0) with
    |true=>rw[ha] at hx; cases hx
    |false =>
     rw[ha] at hx
     simp only[cond_false,Option.some.injEq] at hx
     subst hx
     have l2:(aQ (aQ e.counts r.fr) r.gB).length=e.counts.length:=by rw[nS,l1]
     rw[if_neg (by omega),a1 (by rw[EY,l2]) p2,a1 l2 p4,b1 l1 p3,b1 rfl p1,XK,k2]
     simp only[cond_true]; omega
   |false =>
    rw[k2] at hx
    simp only[cond_false] at hx
    cases k3:r.kind==3 with
    |true =>
     have k3':r.kind=3:=by simpa using k3
     obtain⟨q1,q2⟩:=hr.place.rsp k3'
     rw[k3] at hx
     simp only[cond_true,Option.some.injEq] at hx
     subst hx
     have hs:=XL (c:=aQ e.counts r.fr) (w:=w) (by rw[l1]; exact q2) (k:=e.counts.length) (by omega)
     rw[l1] at hs
     rw[if_pos k3',a1 (by rw[qH,l1]) p2,l1,hs]; omega
    |false =>
     have k3':r.kind≠3:=by simpa using k3
     rw[k3] at hx
     simp only[cond_false,Option.some.injEq] at hx
     subst hx
     rw[if_neg k3',a1 l1 p2,b1 rfl p1,XK,k2]
     simp only[cond_false]; omega
theorem Ia{n:Nat}: ∀ {c:List Int} {k:Nat},k<=n->k<=c.length->sumW c (List.replicate n 1) k=(c.take k).sum:=by
 intro c k
 induction k with
 |zero=>intro _ _; simp[sumW]
 |succ k ih =>
  intro h1 h2
  have e1:(List.replicate n (1:Int)).getD k 0=1:=by
   rw[List.getD_eq_getElem?_getD,List.getElem?_replicate,if_pos (by omega)]; rfl
  rw[xF,ih (by omega) (by omega),Ib (by omega),e1,Int.mul_one]
theorem DC{n:Nat}{x:Int}(h:0<=x/\x<n):wt (List.replicate n 1) x=1:=by
 unfold wt
 rw[List.getD_eq_getElem?_getD,List.getElem?_replicate,if_pos (by omega)]; rfl
theorem Vu{r:Rule}{c:List Int}{n:Nat}(hr:qG n r.response): ∀ {k:Nat},k<=r.response.length->k<=n->Vs r c (List.replicate n 1) k=sumW c (List.replicate n 1) k:=by
 intro k
 induction k with
 |zero=>intro _ _; rfl
 |succ k ih =>
  intro h1 h2
  have e1:(List.replicate n (1:Int)).getD k 0=1:=by
   rw[List.getD_eq_getElem?_getD,List.getElem?_replicate,if_pos (by omega)]; rfl
  rw[KJ,xF,ih (by omega) (by omega),DC (KI hr (by omega)),e1]
theorem Ru{r:Rule}{e x:Elem}(hr:WtR e.counts.length r)(hx:gG r e=some x):x.counts.sum=e.counts.sum:=by
 have h:=XM (List.replicate e.counts.length 1) hr hx
 have hl:=xG hx
 rw[Ia (Nat.le_refl _) (by omega),Ia (Nat.le_refl _) (Nat.le_refl _),List.take_of_length_le (by omega),List.take_of_length_le (Nat.le_refl _)] at h
 rw[h]
 have p1:=DC hr.place.src; have p2:=DC hr.place.dst; have p3:=DC hr.place.aaP; have p4:=DC hr.place.aaQ
 split
 ·rename_i k3
  obtain⟨q1,q2⟩:=hr.place.rsp k3
  have hd:=H9 (w:=List.replicate e.counts.length 1) hr.place.src
  rw[Vu q2 (by omega) (Nat.le_refl _),p2,hd,p1,Ia (Nat.le_refl _) (Nat.le_refl _),List.take_of_length_le (Nat.le_refl _)]; omega
 ·unfold XK
  rw[p1,p2,p3,p4]
  cases r.kind==2<;>simp
theorem DF{e:Elem}(hl:e.counts.length<=6)(h:e.counts.all Ic=true):zD e=e.counts.sum:=by
 rw[zD,if_neg (by omega),if_pos h]
end Go.Proofs.YtajmbgljnaljiaaGreatDoor
