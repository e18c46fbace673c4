/-
 A part of the proof. No condition.
-/
import Derived.Test.YtiakcepnlcpanaaGreatDoorBb
import Derived.Test.YtiakcepnlcpanaaGreatDoorIi
import Derived.Test.YtiakcepnlcpanaaGreatDoorFa
namespace Go.Proofs.YtiakcepnlcpanaaGreatDoor
open Go.Ab Go.Proofs
set_option maxRecDepth 100000
theorem SmallK.each{l:List Clause}(h:SmallK l)(i:Nat):(l.getD i default).each.length<2^30:=(h.cl i).each
theorem XD{h:Hz}{j:Nat}{c:Clause}{Z:Nat->Prop}(hz:Z j)(q: ∃ o,h.get j=some o/\o.aG=⟨36,4,[kT c]⟩):T.sub Z h.aj (V.row 4 false (.clauses [c])).aH (V.own j).aH:=by
 obtain⟨o,q1,q2⟩:=q
 show T.sub Z h.aj (.sl 4 false ([c].map kT)) (.own j)
 simp only[T.sub]
 exact⟨trivial,hz,wO [c],by decide,36,(aJ q1).trans (congrArg some q2)⟩
theorem RD(p:aW)(e:Elem)(h:p.rules.length<2^30):(x8 p e).length<2^30:=by
 unfold x8
 cases (sJ p e !=0) with
 |true=>show([]:List Elem).length<_; decide
 |false =>
  have h1:=EU (oN (sK p e p.rules.length)) (oN (sK p e p.rules.length)).length
  have h2:=IX (sK p e p.rules.length)
  have h3:=IY (p:=p) (e:=e) (k:=p.rules.length)
  show(qJ _ _).length<_
  omega
theorem XE: ∀ {l:List Int} {y:Int},(∀ x∈l,0<=x)->y∈l->1<=y->0<l.sum:=by
 intro l
 induction l with
 |nil=>intro y _ h _; cases h
 |cons x l ih =>
  intro y h hy h1
  have hx:=h x (by simp)
  have hnn: ∀ z∈l,0<=z:=fun z hz=>h z (List.mem_cons_of_mem _ hz)
  have hs:0<=l.sum:=by
   clear ih hy h h1
   induction l with
   |nil=>simp
   |cons z l ih2=>have:=hnn z (by simp); have:=ih2 fun w hw=>hnn w (List.mem_cons_of_mem _ hw); simp only[List.sum_cons]; omega
  simp only[List.sum_cons]
  rcases List.mem_cons.1 hy with rfl|hy
  ·omega
  ·have:=ih hnn hy h1; omega
theorem UY{r:Rule}{e x:Elem}{B:Int}(hp:sN e.counts.length r)(hB:0<=B)(hc:EW B e.counts)(h:aX r e=some x):0<x.counts.sum:=by
 have lift: ∀ {c:List Int} {v b:Int},0<=b->EW b c->c.length=e.counts.length->some (⟨v,dW c r.to 1⟩:Elem)=some x->0<x.counts.sum:=by
  intro c v b hb hcc hl h; cases h
  have h1:=hcc.add hb (k:=1) (d:=1) (i:=r.to) ⟨by omega,by omega⟩
  have h2:=hcc.g hb r.to.toNat
  have h3:r.to.toNat<c.length:=by have:=hp.dst; omega
  refine XE (fun y hy=>(h1 y hy).1) (List.mem_iff_getElem.2 ⟨r.to.toNat,by rw[yX]; exact h3,?_⟩) (y:=c.getD r.to.toNat 0+1) (by omega)
  simp[dW]
 unfold aX at h
 cases hs:(decide (0<=r.read)&&e.value !=r.read||e.counts.getD r.fr.toNat 0==0) with
 |true=>rw[hs] at h; cases h
 |false =>
  rw[hs] at h
  rw[Bool.or_eq_false_iff] at hs
  have h1:EW B (aO e.counts r.fr):=hc.dec hB hs.2
  simp only[cond_false] at h
  rcases eP h with h|h
  ·rcases eP h with h|h
   ·cases h
   ·exact lift hB h1 jG h
  ·rcases eP h with h|h
   ·cases hq:(aO e.counts r.fr).getD r.gU.toNat 0==0 with
    |true=>rw[hq] at h; cases h
    |false =>
     rw[hq] at h
     have h2:EW B (aO (aO e.counts r.fr) r.gU):=h1.dec hB hq
     exact lift (b:=B+1) (by omega) (h2.add hB (k:=1) ⟨by omega,by omega⟩) (by rw[yX,jG,jG]) h
   ·rcases eP h with h|h
    ·have h2:=h1.resp hB (r:=r) (aO e.counts r.fr).length
     exact lift (b:=((aO e.counts r.fr).length:Int)*B) (Int.mul_nonneg (by omega) hB) h2 (by rw[qK,jG]) h
    ·exact lift hB h1 jG h
theorem Qr{p:aW}{e:Elem}(hn:p.states.length<=6)(h:uz p e=false)(hs:0<e.counts.sum):uH 1048577 p.states.length (kD p) e/\jd e=e.counts.sum:=by
 obtain⟨h1,h2,h3,h4⟩:=JU h
 have hok:e.counts.all A8=true:=by
  rw[List.all_eq_true]; intro x hx
  have:=h2 x hx
  simp only[A8,Bool.and_eq_true,decide_eq_true_eq]; exact this
 refine⟨⟨h1,fun x hx=>by have:=h2 x hx; omega,⟨h3,by unfold kD; omega⟩,hs⟩,?_⟩
 unfold jd
 rw[if_neg (by omega),if_pos hok]
theorem RF{p:aW}{q:Prop'}{l:List Clause}{c:Clause}{e:Elem}(hst:Ij p q l []=true)(hent:vJ p l c=true)(htot:(jd e==0)=false)(hve:sJ p e=0)(hall:l.all (fun k=>holdsB k e)=true): ∀ x∈x8 p e,uz p x=false->EK p c x=0/\holdsB c x=true:=by
 intro x hx hvx
 obtain⟨⟨herr,_⟩,_⟩:=Qs.1 hst
 have acP:Bf p q=0:=by
  unfold wP at herr
  simpa using (bz nz herr).1
 obtain⟨_,hin,_⟩:=FP acP
 obtain⟨hF,hpl⟩:=yY hin
 have abC:uz p e=false:=by
  unfold sJ at hve
  exact vK (bz nz hve).2 (by decide)
 obtain⟨e1,e2,e3,e4⟩:=JU abC
 rw[x8,hve] at hx
 replace hx:x∈uI (sK p e p.rules.length):=hx
 rw[IZ] at hx
 obtain⟨r,hr,hf⟩:=List.mem_filterMap.1 hx
 rw[List.take_length] at hr
 obtain⟨k,hk,rfl⟩:=List.mem_iff_getElem.1 hr
 have hg:p.rules[k]=p.rules.getD k default:=by simp[hk]
 rw[hg] at hf
 have hRu:=LM hF (Dj hpl) hk
 have hxs:0<x.counts.sum:=UY (B:=1048576) (by rw[e1]; exact hRu.place) (by omega) (fun y hy=>by have:=e2 y hy; omega) hf
 have hes:0<e.counts.sum:=by
  have hok:e.counts.all A8=true:=by
   rw[List.all_eq_true]; intro y hy
   have:=e2 y hy
   simp only[A8,Bool.and_eq_true,decide_eq_true_eq]; exact this
  have h1:=vM hok
  have h2:jd e≠0:=by simpa using htot
  unfold jd at h2
  rw[if_neg (by have:=hF.states; omega),if_pos hok] at h2
  omega
 obtain⟨u1,_⟩:=Qr hF.states abC hes
 obtain⟨u2,t2⟩:=Qr hF.states hvx hxs
 have hold:=Oz hst hent hk u1 hall hf u2
 refine⟨?_,hold⟩
 unfold vJ at hent
 rw[Bool.and_eq_true,beq_iff_eq] at hent
 have hC:xP p c=0:=by
  have h2:=hent.1
  unfold pJ at h2
  obtain⟨_,h3⟩:=bz nz h2
  exact(bz nz h3).2
 have htx:(jd x==0)=false:=by rw[t2]; simp; omega
 rw[EK,JV,hin,hC,hvx,htx]; rfl
set_option maxHeartbeats 2000000 in
theorem S.gV(p:aW)(q:Prop')(l:List Clause)(c:Clause)(e:Elem)(f:Bool)(hp:dI p)(hq:oO q)(hl:SmallK l)(hc:qY c)(he:e.counts.length<2^30):au Tryz.prog 3 [.agg (Dat.cells (.eU p)++Dat.cells (.prop q)),.row 4 f (.clauses l),.agg (Dat.cells (.clause c)++Dat.cells (.elem e))] (.bool true):=by
 have k1:=hl.len
 have hce: ∀ i,([c].getD i default).each.length<2^30:=fun i=>by
  cases i with
  |zero=>exact hc.each
  |succ i=>show(default:Clause).each.length<_; decide
 refine au.of Bd.gV (by simp) (by cases f<;>rfl) rfl ?_
 conv=>whnf
 refine ah.XF (h2:=[(7,some (.box 27 11 (.dat (.eU p)))),(8,some (.box 30 7 (.dat (.prop q)))),(15,some (.box 36 4 (.dat (.clause c)))),(16,some (.box 38 3 (.dat (.elem e)))),(22,some (.row 33 0 .nil [.row 4 f (.clauses l),.row 4 false (.clauses [c])]))]) (fun i=>i=21) ?_ (S.LK 10 l [c] false f false k1 hl.each (by simp) hce) ?_ rfl ?_
 ·exact⟨⟨_,rfl,by decide,rfl,rfl,bP _,rfl,rfl⟩,⟨_,rfl,by decide,rfl,rfl,bP _,rfl,rfl⟩,⟨_,rfl,by decide,rfl,rfl,bP _,rfl,rfl⟩,⟨_,rfl,by decide,rfl,rfl,bP _,rfl,rfl⟩,⟨_,rfl,by decide,rfl,rfl,⟨aC _,XD (Z:=fun i=>i=21) (j:=21) rfl ⟨_,rfl,rfl⟩,trivial⟩,rfl,rfl⟩,trivial⟩
 ·exact And.intro (aC _) (And.intro (wM trivial rfl (by decide) rfl) trivial)
 conv=>whnf
 refine .mk (by intro h; simp only[h,true_and]; done) ?_
 conv=>whnf
 refine ah.LJ (args':=[.dat (.eU p),.dat (.prop q),.row 4 f (.clauses l),.row 4 true (.clauses [])]) (fun _=>S.oP p q l [] f true hp hq hl Bc) (fun _=>And.intro (aC _) (And.intro (aC _) (And.intro (aC _) (And.intro ⟨.inl rfl,.inr rfl,fun h=>h⟩ trivial)))) rfl rfl ?_
 conv=>whnf
 repeat(refine VC.mk (by first|exact id|(intro h; rw[h]; rfl)) ?_; conv=>whnf)
 refine ah.nY (fun _=>S.vN e (by omega)) rfl ?_
 conv=>whnf
 repeat(refine VC.mk (by first|exact id|(intro h; rw[h]; rfl)) ?_; conv=>whnf)
 refine⟨fun h1=>?_,fun h1=>?_⟩
 ·conv=>whnf
  refine ah.pure (S.kU) rfl ?_
  conv=>whnf
  exact aA.bool rfl
 replace h1:((xH 10 l||xH 10 [c])|| !Ij p q l []||(jd e==0))=false:=h1
 rw[Bool.or_eq_false_iff,Bool.or_eq_false_iff,Bool.not_eq_false'] at h1
 obtain⟨⟨_,hst⟩,htot⟩:=h1
 conv=>whnf
 refine ah.pure (S.jJ p l c f hp hl hc) rfl ?_
 rw[EL]
 conv=>whnf
 refine ah.pure (S.sO p e hp he) rfl ?_
 conv=>whnf
 repeat(refine VC.mk (by first|exact id|(intro h; rw[h]; rfl)) ?_; conv=>whnf)
 refine⟨fun h2=>?_,fun h2=>?_⟩
 ·conv=>whnf
  refine ah.pure (S.kU) rfl ?_
  conv=>whnf
  exact aA.bool rfl
 rw[Bool.or_eq_false_iff,Bool.or_eq_false_iff,Bool.not_eq_false'] at h2
 obtain⟨⟨_,hent⟩,hve⟩:=h2
 have abD:=RF hst hent htot (FQ hve)
 have hpl:=RD p e hp.rules
 have hps: ∀ x∈x8 p e,x.counts.length<2^30:=fun x hx=>by
  unfold x8 at hx
  cases hv:(sJ p e !=0) with
  |true=>rw[hv] at hx; cases hx
  |false=>rw[hv] at hx; rw[Ei ((IZ _ _).1 hx)]; exact he
 generalize x8 p e=A at abD hpl hps ⊢
 conv=>whnf
 refine aU.same [1,7,9,10,13] (fun i:Nat=>[(15,.int i)]) (fun i=>i<=l.length/\(l.take i).all (fun k=>holdsB k e)=true) (fun i=>l.length-i) 0 rfl (by decide) rfl (fun _=>rfl) ⟨Nat.zero_le _,rfl⟩ ⟨⟨_,rfl,rfl⟩,trivial⟩ ?_
 conv=>whnf
 refine⟨by cases f<;>rfl,?_⟩
 rintro i ⟨hi,hall⟩
 conv=>whnf
 refine⟨fun h3=>?_,fun h3=>?_⟩
 ·have hi':i<l.length:=by simpa using h3
  conv=>whnf
  refine .mk (by simp only[Rw.rng] at *; first|omega|(simp_all; done)|(simp_all; omega)) ?_
  conv=>whnf
  refine ah.pure (S.iF p (l.getD i default) e hp (hl.cl i) he) rfl ?_
  rw[RG]
  conv=>whnf
  repeat(refine VC.mk (by first|exact id|(intro h; rw[h]; rfl)) ?_; conv=>whnf)
  refine⟨fun h4=>?_,fun h4=>?_⟩
  ·conv=>whnf
   refine ah.pure (S.kU) rfl ?_
   conv=>whnf
   exact aA.bool rfl
  ·replace h4:(EK p (l.getD i default) e !=0|| !(EK p (l.getD i default) e==0&&holdsB (l.getD i default) e))=false:=h4
   rw[Bool.or_eq_false_iff,Bool.not_eq_false',Bool.and_eq_true] at h4
   conv=>whnf
   refine .mk (by simp only[okI] at *; first|omega|(simp_all; done)|(simp_all; omega)) ?_
   conv=>whnf
   refine⟨i+1,⟨by omega,?_⟩,by omega,⟨⟨_,rfl,rfl⟩,trivial⟩,?_,rfl⟩
   ·rw[nZ (d:=default) hi' hall]; exact h4.2.2
   ·repeat' (first|exact trivial|exact⟨_,rfl,rfl⟩|constructor)
 have hi':l.length<=i:=by simpa using h3
 rw[List.take_of_length_le hi'] at hall
 conv=>whnf
 refine aU.same [7,9,13] (fun i:Nat=>[(18,.int i)]) (fun i=>i<=A.length) (fun i=>A.length-i) 0 rfl (by decide) rfl (fun _=>rfl) (Nat.zero_le _) ⟨⟨_,rfl,rfl⟩,trivial⟩ ?_
 conv=>whnf
 refine⟨rfl,?_⟩
 rintro j hj
 conv=>whnf
 refine⟨fun h4=>?_,fun h4=>?_⟩
 ·have hj':j<A.length:=by simpa using h4
  have hsj:=hps _ (getM (d:=default) hj')
  conv=>whnf
  refine .mk (by simp only[Rw.rng] at *; first|omega|(simp_all; done)|(simp_all; omega)) ?_
  conv=>whnf
  refine ah.pure (S.x9 p (A.getD j default) hp (by omega)) rfl ?_
  conv=>whnf
  refine⟨fun h5=>?_,fun h5=>?_⟩
  ·conv=>whnf
   refine .mk (by simp only[okI] at *; first|omega|(simp_all; done)|(simp_all; omega)) ?_
   conv=>whnf
   refine⟨j+1,by omega,by omega,⟨⟨_,rfl,rfl⟩,trivial⟩,?_,rfl⟩
   repeat' (first|exact trivial|exact⟨_,rfl,rfl⟩|constructor)
  ·replace h5:(!(!(uz p (A.getD j default))))=false:=h5
   rw[Bool.not_not] at h5
   obtain⟨q1,q2⟩:=abD hall (A.getD j default) (getM hj') h5
   have hH:=S.iF p c (A.getD j default) hp hc (by omega)
   rw[RG,q1,q2] at hH
   conv=>whnf
   refine .mk (by simp only[Rw.rng] at *; first|omega|(simp_all; done)|(simp_all; omega)) ?_
   conv=>whnf
   refine ah.pure hH rfl ?_
   conv=>whnf
   repeat(refine VC.mk (by first|exact id|(intro h; rw[h]; rfl)) ?_; conv=>whnf)
   refine Fork.mk (fun q=>absurd (q.symm.trans ((rfl:false=false))).symm Bool.false_ne_true) (fun _=>?_)
   conv=>whnf
   refine .mk (by simp only[okI] at *; first|omega|(simp_all; done)|(simp_all; omega)) ?_
   conv=>whnf
   refine⟨j+1,by omega,by omega,⟨⟨_,rfl,rfl⟩,trivial⟩,?_,rfl⟩
   repeat' (first|exact trivial|exact⟨_,rfl,rfl⟩|constructor)
 ·conv=>whnf
  refine ah.pure (S.kU) rfl ?_
  conv=>whnf
  exact aA.bool rfl
end Go.Proofs.YtiakcepnlcpanaaGreatDoor
