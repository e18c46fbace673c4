/-
 What is met is what can be reached: plain laws. No condition.
-/
import Derived.Test.YtajmbgljnaljiaaGreatDoorAc
import Derived.Test.YtajmbgljnaljiaaGreatDoorBc
namespace Go.Proofs.YtajmbgljnaljiaaGreatDoor
open Go.Ab Go.Proofs
set_option maxRecDepth 100000
theorem aeU{a:Elem}{l:List Elem}:Wx a l=true↔a∈l:=by
 unfold Wx
 rw[List.any_eq_true]
 constructor
 ·rintro⟨b,hb,h⟩
  rw[beq_iff_eq,iY] at h
  rw[h]; exact hb
 ·intro h; exact⟨a,h,by rw[beq_iff_eq,iY]⟩
theorem Q9{q:Prop'}: ∀ {l out:List Elem},out.Nodup->(iD q out l).Nodup:=by
 intro l
 induction l with
 |nil=>intro out h; exact h
 |cons a l ih =>
  intro out h
  refine ih (out:=pq q out a) ?_
  unfold pq
  split
  ·rename_i hk
   rw[Bool.and_eq_true,Bool.not_eq_true'] at hk
   refine List.nodup_append.2 ⟨h,List.nodup_cons.2 ⟨nofun,List.nodup_nil⟩,fun x hx y hy=>?_⟩
   rw[List.mem_singleton] at hy
   subst hy
   rintro rfl
   rw[aeU.2 hx] at hk
   exact absurd hk.1 (by decide)
  ·exact h
theorem Nr{q:Prop'}: ∀ {l out:List Elem},∃ t,iD q out l=out++t:=by
 intro l
 induction l with
 |nil=>intro out; exact⟨[],by simp[iD]⟩
 |cons a l ih =>
  intro out
  obtain⟨t,ht⟩:=ih (out:=pq q out a)
  have h1: ∃ u,pq q out a=out++u:=by
   unfold pq
   split
   ·exact⟨[a],rfl⟩
   ·exact⟨[],by simp⟩
  obtain⟨u,hu⟩:=h1
  refine⟨u++t,?_⟩
  show iD q (pq q out a) l=_
  rw[ht,hu,List.append_assoc]
theorem Ns{q:Prop'}{l out:List Elem}{i:Nat}(hi:i<out.length):(iD q out l).getD i default=out.getD i default:=by
 obtain⟨t,ht⟩:=Nr (q:=q) (l:=l) (out:=out)
 rw[ht,List.getD_eq_getElem?_getD,List.getElem?_append_left hi,List.getD_eq_getElem?_getD]
theorem aao{q:Prop'}{l out:List Elem}:out.length<=(iD q out l).length:=by
 obtain⟨t,ht⟩:=Nr (q:=q) (l:=l) (out:=out)
 rw[ht,List.length_append]; omega
structure Ep(p:aC)(q:Prop')(out:List Elem)(i:Nat):Prop where
 nd:out.Nodup
 rc: ∀ x∈out,Nq p q x
 ini: ∀ x∈nI p q,nJ q x=true->x∈out
 cl: ∀ j,j<i-> ∀ r∈p.rules,∀ y∈gI r (out.getD j default),nJ q y=true->y∈out
 le:i<=out.length
theorem Ep.zero(p:aC)(q:Prop'):Ep p q (iD q [] (nI p q)) 0 :=
 ⟨Q9 List.nodup_nil,fun x hx=>by
  rcases tH.1 hx with h|⟨h,g⟩
  ·cases h
  ·exact .ini h g,fun x hx hl=>tH.2 (.inr ⟨hx,hl⟩),fun j hj=>by omega,Nat.zero_le _⟩
structure Rf(p:aC)(q:Prop')(i:Nat)(x:Elem)(out:List Elem)(k:Nat):Prop where
 inv:Ep p q out i
 lt:i<out.length
 at':out.getD i default=x
 kl:k<=p.rules.length
 cl: ∀ j,j<k-> ∀ y∈gI (p.rules.getD j default) x,nJ q y=true->y∈out
theorem Rf.zero{p:aC}{q:Prop'}{out:List Elem}{i:Nat}(h:Ep p q out i)(hi:i<out.length):Rf p q i (out.getD i default) out 0 :=
 ⟨h,hi,rfl,Nat.zero_le _,fun j hj=>by omega⟩
theorem Rf.next{p:aC}{q:Prop'}{out:List Elem}{i k:Nat}{x:Elem}(h:Rf p q i x out k)(hk:k<p.rules.length):Rf p q i x (iD q out (gI (p.rules.getD k default) x)) (k+1):=by
 have hle:=aao (q:=q) (l:=gI (p.rules.getD k default) x) (out:=out)
 have hlt:=h.lt
 have hx:x∈out:=by rw[<- h.at']; exact dF h.lt
 refine⟨⟨Q9 h.inv.nd,fun y hy=>?_,fun y hy hl=>tH.2 (.inl (h.inv.ini y hy hl)),fun j hj r hr y hy hl=>?_,by omega⟩,by omega,?_,hk,fun j hj y hy hl=>?_⟩
 ·rcases tH.1 hy with g|⟨g,gl⟩
  ·exact h.inv.rc y g
  ·exact .stp (h.inv.rc x hx) (dF hk) g gl
 ·rw[Ns (by omega)] at hy
  exact tH.2 (.inl (h.inv.cl j hj r hr y hy hl))
 ·rw[Ns h.lt]; exact h.at'
 ·refine tH.2 ?_
  rcases Nat.lt_or_ge j k with g|g
  ·exact .inl (h.cl j g y hy hl)
  ·have:j=k:=by omega
   subst this
   exact .inr ⟨hy,hl⟩
theorem Rf.all{p:aC}{q:Prop'}{out:List Elem}{i k:Nat}{x:Elem}(h:Rf p q i x out k)(hk:p.rules.length<=k):Ep p q out (i+1):=by
 refine⟨h.inv.nd,h.inv.rc,h.inv.ini,fun j hj r hr y hy hl=>?_,h.lt⟩
 rcases Nat.lt_or_ge j i with g|g
 ·exact h.inv.cl j g r hr y hy hl
 ·have:j=i:=by omega
  subst this
  rw[h.at'] at hy
  obtain⟨n,hn,e⟩:=List.mem_iff_getElem.1 hr
  have e2:p.rules.getD n default=r:=by rw[List.getD_eq_getElem?_getD,List.getElem?_eq_getElem hn]; exact e
  exact h.cl n (by omega) y (by rw[e2]; exact hy) hl
theorem Ep.done{p:aC}{q:Prop'}{out:List Elem}{i:Nat}(h:Ep p q out i)(hi:out.length<=i)(x:Elem):x∈out↔Nq p q x:=by
 refine⟨h.rc x,fun hx=>?_⟩
 induction hx with
 |ini hx hl=>exact h.ini _ hx hl
 |stp _ hr hy hl ih =>
  obtain⟨n,hn,e⟩:=List.mem_iff_getElem.1 ih
  refine h.cl n (by omega) _ hr _ ?_ hl
  rw[List.getD_eq_getElem?_getD,List.getElem?_eq_getElem hn,Option.getD_some,e]; exact hy
theorem Ep.st{p:aC}{q:Prop'}(hc:AZ p=0){out:List Elem}{i:Nat}(h:Ep p q out i): ∀ x∈out,Un p x:=fun x hx=>(h.rc x hx).st hc
theorem yT{r:Rule}{a:Elem}(h:G9 a):(gI r a).length<=729:=by
 have h1:=Yi (lM r (mD a.value (iI a.counts)))
 have h2:=Dk (r:=r) (l:=mD a.value (iI a.counts))
 have h3:(mD a.value (iI a.counts)).length<=729:=OQ (vC (QN a.counts) a.counts.length) (by rw[kN]; exact h.len)
 unfold gI; omega
theorem Rh{p:aC}{q:Prop'}(hst:p.states.length<=6):(nI p q).length<=729:=by
 unfold nI initK
 rw[List.length_map]
 have h1:=List.length_filter_le (QO p q) (allM 2 p.states.length)
 rw[rO] at h1
 have h3:(2+1)^p.states.length<=3^6:=Nat.pow_le_pow_right (by decide) hst
 have h36:3^6=729:=by decide
 omega
theorem Ep.len{p:aC}{q:Prop'}(hp:dJ p)(hc:AZ p=0){out:List Elem}{i:Nat}(h:Ep p q out i):out.length<=(D6 p).length/\(D6 p).length<=764411904:=Yh hp hc h.nd (h.st hc)
theorem Ep.small{p:aC}{q:Prop'}(hc:AZ p=0){out:List Elem}{i:Nat}(h:Ep p q out i):eF out:=fun x hx=>by
 have:=(h.st hc x hx).abs.len; omega
noncomputable def bV(p:aC)(q:Prop'):List Elem:=uz ((D6 p).filter fun x=>@decide (Nq p q x) (Classical.propDecidable _))
theorem J3{p:aC}{q:Prop'}(hc:AZ p=0){x:Elem}:x∈bV p q↔Nq p q x:=by
 unfold bV
 rw[oO,List.mem_filter]
 constructor
 ·rintro⟨_,h⟩; exact @of_decide_eq_true _ (Classical.propDecidable _) h
 ·intro h; exact⟨(h.st hc).univ,@decide_eq_true _ (Classical.propDecidable _) h⟩
theorem yU{p:aC}{q:Prop'}(hc:AZ p=0){l:List Elem}(hs:SS l)(h: ∀ x,x∈l↔Nq p q x):l=bV p q :=
 G7 hs (uD _) fun x=>by rw[h]; exact(J3 hc).symm
theorem acL{Z:Nat->Prop}{h:Hp}{k:Nat}:T.sub Z h (V.row k false (.elems [])).aI (V.row 0 true .nil).aI:=by
 simp only[V.aI]; exact⟨.inl rfl,.inr rfl,fun h=>by cases h⟩
abbrev OZ(p:aC):OV:=.box 27 11 (.dat (.gW p))
abbrev agv(p:aC)(q:Prop')(out:List Elem):List (Nat×OV):=[(0,OZ p),(1,pO q),(3,DU 4),(4,eH out)]
set_option maxHeartbeats 2000000 in
theorem S.wI(p:aC)(q:Prop')(hp:dJ p)(hq:gG q)(hv:uU p q=0):aj Tryz.prog 23 [.dat (.gW p),.dat (.prop q)] (.row 3 false (.elems (bV p q))):=by
 have hc:=zV hv
 have hst:=(lT (iP (nV hc)).1).states
 have ais:=Rh (q:=q) hst
 have hz:=Ep.zero p q
 have hrl:=hp.rules
 refine aj.of Bd.wI (by simp) rfl rfl ?_
 conv=>whnf
 refine ah.pure (S.rM p q hp hq (JO hv)) rfl ?_
 rw[aeQ]
 conv=>whnf
 have hsi:eF (nI p q):=fun x hx=>by have:=(Un.ini hc hx).abs.len; omega
 refine ah.aam (q:=q) (l:=nI p q) hq (by omega) hsi rfl rfl (by decide) rfl (fun h0=>?_) (fun x o hm=>?_)
 ·conv=>whnf
  refine aB.times 1 rfl ?_
  conv=>whnf
  refine Fork.mk (fun q=>absurd (q.symm.trans ((rfl:decide ((0:Int)<0)=false))).symm Bool.false_ne_true) (fun _=>?_)
  conv=>whnf
  refine ah.pure (S.UM) rfl ?_
  conv=>whnf
  rw[h0] at hz
  rw[<- yU hc (l:=[]) (by simp[SS]) (hz.done (Nat.le_refl _))]
  exact⟨acL⟩
 ·rw[hm] at hz
  generalize ho:x::o=o1 at hz ⊢
  clear ho hm
  conv=>whnf
  refine aB.nH 5 [2,3,5,6] (fun s:List Elem×Nat=>[(7,.int s.2)]) (fun s=>agv p q s.1) (fun s=>Ep p q s.1 s.2) (fun s=>(D6 p).length-s.2) (o1,0) [0,1,3,10] rfl (by decide) (fun _=>rfl) hz ?_ ?_ ?_
  ·exact(sR rfl)
  ·exact⟨aT rfl rfl,aT rfl rfl,kW rfl rfl rfl ⟨rfl,rfl⟩ (bD.of_eq rfl),aT rfl rfl,trivial⟩
  conv=>whnf
  refine⟨(sR rfl),rfl,?_⟩
  rintro⟨out,i⟩ hI
  obtain⟨hU1,hU2⟩:=hI.len hp hc
  have hle:=hI.le
  have hso:=hI.small hc
  simp only at hU1 hle hso ⊢
  conv=>whnf
  refine⟨fun h1=>?_,fun h1=>?_⟩
  ·have hi:i<out.length:=by simpa using h1
   conv=>whnf
   refine aB.nH 5 [2,3,5,6,7,23,24] (fun s:List Elem×Nat=>[(25,.int s.2)]) (fun s=>agv p q s.1) (fun s=>Rf p q i (out.getD i default) s.1 s.2) (fun s=>p.rules.length-s.2) (out,0) [0,1,3,4] rfl (by decide) (fun _=>rfl) (.zero hI hi) ?_ ?_ ?_
   ·exact(sR rfl)
   ·exact⟨aT rfl rfl,aT rfl rfl,kW rfl rfl rfl ⟨rfl,rfl⟩ (bD.of_eq rfl),aT rfl rfl,trivial⟩
   conv=>whnf
   refine⟨(sR rfl),rfl,?_⟩
   rintro⟨o2,k⟩ hM
   obtain⟨hV1,_⟩:=hM.inv.len hp hc
   have hs2:=hM.inv.small hc
   have hlt:=hM.lt
   have hat:=hM.at'
   have hSt:=hM.inv.st hc _ (dF (d:=default) hlt)
   simp only at hV1 hs2 hlt hat hSt ⊢
   conv=>whnf
   refine⟨fun h2=>?_,fun h2=>?_⟩
   ·have hk:k<p.rules.length:=by simpa using h2
    have hnx:=hM.next hk
    simp only at hnx
    conv=>whnf
    repeat(refine VC.mk (by simp only[Rw.rng] at *; first|omega|(simp_all; done)|(simp_all; omega)) ?_; conv=>whnf)
    have hpl:sZ (o2.getD i default).counts.length (p.rules.getD k default):=by rw[hSt.len]; exact(wtR hc hk).place
    refine ah.pure (S.tq (p.rules.getD k default) (o2.getD i default) (hp.rule k) hpl hSt.abs.ok hSt.abs.pos hSt.abs.len) rfl ?_
    have hpo:=yT (r:=p.rules.getD k default) hSt.abs
    have hsp:eF (gI (p.rules.getD k default) (o2.getD i default)):=fun y hy=>by rw[He hy]; have:=hSt.abs.len; omega
    conv=>whnf
    refine ah.aal (q:=q) (out:=o2) (l:=gI (p.rules.getD k default) (o2.getD i default)) hq (by omega) hs2 hsp rfl rfl rfl (by decide) (by decide) (by decide) rfl ?_
    conv=>whnf
    refine .mk (by simp only[okI] at *; first|omega|(simp_all; done)|(simp_all; omega)) ?_
    conv=>whnf
    refine⟨(iD q o2 (gI (p.rules.getD k default) (o2.getD i default)),k+1),[0,1,3,17],by rw[hat]; exact hnx,by simp only; omega,(sR rfl),(sR rfl),aT rfl rfl,aT rfl rfl,kW rfl rfl rfl ⟨rfl,rfl⟩ (bD.of_eq rfl),aT rfl rfl,trivial⟩
   ·have hk:p.rules.length<=k:=by simpa using h2
    conv=>whnf
    refine .mk (by simp only[okI] at *; first|omega|(simp_all; done)|(simp_all; omega)) ?_
    conv=>whnf
    refine⟨(o2,i+1),[0,1,3,4],hM.all hk,by simp only; omega,(sR rfl),(sR rfl),aT rfl rfl,aT rfl rfl,kW rfl rfl rfl ⟨rfl,rfl⟩ (bD.of_eq rfl),aT rfl rfl,trivial⟩
  ·have hi:out.length<=i:=by simpa using h1
   conv=>whnf
   refine ah.ZW rfl rfl (by omega) hso ?_ (fun m=>?_)
   ·rw[yU hc (uD out) (fun x=>(oO out x).trans (hI.done hi x))]
    conv=>whnf
    exact ak.X5 rfl
   ·rw[yU hc (uD out) (fun x=>(oO out x).trans (hI.done hi x))]
    conv=>whnf
    exact ak.aeN rfl
set_option maxHeartbeats 1000000 in
theorem S.O1(p:aC)(q:Prop')(hp:dJ p)(hq:gG q)(hv:jy p q=0)(n:Nat):aV Tryz.prog 51 (V.aS [.dat (.gW p),.dat (.prop q)]) (Hz.au []) n (fun t hp=>t= .own n/\hp=Hz.au [(n,some (eH (nI p q)))]):=by
 have hst:=(lT (zU hv)).states
 have hpos:=(lT (zU hv)).pos
 have hsl:=Na hp hq
 refine pJ.of (nx:=0) Bd.BD (by simp) ⟨_,_,rfl,rfl⟩ rfl rfl ?_
 conv=>whnf
 refine ah.pure (S.wJ p q hp hq hv) rfl ?_
 conv=>whnf
 refine ah.pure (S.Z7 2 p.states.length hpos hst (by decide)) rfl ?_
 conv=>whnf
 have hal:=rO (m:=2) (n:=p.states.length)
 have hal2:(2+1)^p.states.length<=3^6:=Nat.pow_le_pow_right (by decide) hst
 have h36:3^6=729:=by decide
 refine aB.nil 8 54 3 (by rfl) rfl rfl rfl ?_
 refine aB.nH 19 [5,7] (fun i:Nat=>[(9,.int i),(8,.own 18)]) (fun i=>[(18,eH (initK p q ((allM 2 p.states.length).take i)))]) (fun i=>i<=(allM 2 p.states.length).length) (fun i=>(allM 2 p.states.length).length-i) 0 [18] rfl (by decide) (fun _=>rfl) (Nat.zero_le _) ?_ ?_ ?_
 ·exact(sR rfl)
 ·exact⟨aT rfl rfl,trivial⟩
 conv=>whnf
 refine⟨(sR rfl),rfl,?_⟩
 rintro i hi
 have hkl:=X9 (p:=p) (q:=q) (l:=(allM 2 p.states.length).take i)
 rw[List.length_take] at hkl
 conv=>whnf
 refine⟨fun h1=>?_,fun h1=>?_⟩
 ·have hi':i<(allM 2 p.states.length).length:=by simpa using h1
  have hcl:((allM 2 p.states.length).getD i []).length=p.states.length:=(Bq.1 (dF hi')).1
  have hstep:=UE (p:=p) (q:=q) hi'
  conv=>whnf
  refine .mk (by simp only[Rw.rng] at *; first|omega|(simp_all; done)|(simp_all; omega)) ?_
  conv=>whnf
  refine ah.pure (S.yV ⟨0,(allM 2 p.states.length).getD i []⟩ (by show((allM 2 p.states.length).getD i []).length<_; omega)) rfl ?_
  conv=>whnf
  repeat(refine VC.mk (by first|exact id|exact fun h=>⟨h,h⟩|(intro h; (repeat' apply And.intro)<;>first|exact h|omega|(simp only[Rw.nO]; omega)|(simp only[Rw.rng]; omega))) ?_; conv=>whnf)
  refine ah.dL (fun _=>S.tu (ng p q) ((allM 2 p.states.length).getD i []) false false (by omega) (by omega)) rfl ?_
  conv=>whnf
  refine VC.mk id ?_
  conv=>whnf
  refine⟨fun h2=>?_,fun h2=>?_⟩
  ·replace h2:QO p q ((allM 2 p.states.length).getD i [])=true:=h2
   rw[if_pos h2] at hstep
   conv=>whnf
   refine ah.pure (S.uF ⟨0,(allM 2 p.states.length).getD i []⟩ (by show((allM 2 p.states.length).getD i []).length<_; omega)) rfl ?_
   conv=>whnf
   repeat(refine VC.mk (by first|(show((initK p q ((allM 2 p.states.length).take i)).length+(0+1))*32<=140737488355328/\(initK p q ((allM 2 p.states.length).take i)).length+(0+1)<=1152921504606846976; omega)|(simp only[okI] at *; first|omega|(simp_all; done)|(simp_all; omega))) ?_; conv=>whnf)
   refine⟨i+1,[45],by omega,by omega,(sR rfl),(sR rfl),okF rfl nofun rfl rfl rfl ⟨rfl,rfl⟩ ?_,trivial⟩
   rw[hstep]
   show List.map fD (initK p q ((allM 2 p.states.length).take i)++[⟨0,(allM 2 p.states.length).getD i []⟩])++[]=List.map fD (initK p q ((allM 2 p.states.length).take i))++[fD ⟨0,(allM 2 p.states.length).getD i []⟩]
   simp
  ·replace h2:QO p q ((allM 2 p.states.length).getD i [])=false:=h2
   rw[if_neg (by rw[h2]; decide),List.append_nil] at hstep
   conv=>whnf
   refine .mk (by simp only[okI] at *; first|omega|(simp_all; done)|(simp_all; omega)) ?_
   conv=>whnf
   refine⟨i+1,[18],by omega,by omega,(sR rfl),(sR rfl),okF rfl nofun rfl rfl rfl ⟨rfl,rfl⟩ (by rw[hstep]),trivial⟩
 ·have hi':(allM 2 p.states.length).length<=i:=by simpa using h1
  rw[List.take_of_length_le hi']
  conv=>whnf
  exact nP.one (c:=n) (j:=18) (o:=eH (nI p q)) (t:=.own n) rfl rfl rfl nofun (.inr rfl) rfl (.eq rfl) ⟨rfl,rfl⟩
theorem S.O4(p:aC)(q:Prop')(hp:dJ p)(hq:gG q)(hv:jy p q=0):wC Tryz.prog 51 (V.aS [.dat (.gW p),.dat (.prop q)]) (fun n=>.own n) (some ⟨54,3,(Rw.elems (nI p q)).aS⟩):=by
 refine⟨rfl,fun n=>rfl,fun ob h=>?_,fun ob h=>?_,fun n=>?_⟩
 ·cases h; exact wH _
 ·cases h; exact show(3:Nat)≠fQ by decide
 ·have:=S.O1 p q hp hq hv n
  have e1:Hz.au [(n,some (eH (nI p q)))]=iq no n (some ⟨54,3,(Rw.elems (nI p q)).aS⟩):=by
   rw[bG]; simp[iq,OV.ay,V.aS]; rfl
  rw[e1] at this
  exact this
theorem S.wK(q:Prop')(a:Elem)(hq:gG q)(ha:a.counts.length<2^40):aj Tryz.prog 52 [.dat (.prop q),.dat (.elem a)] (.bool (nJ q a)):=by
 have hg:=hq.goal
 refine aj.of Bd.wK (by simp) rfl rfl ?_
 conv=>whnf
 repeat(refine VC.mk (by first|exact id|exact fun h=>⟨h,h⟩) ?_; conv=>whnf)
 refine ah.dL (fun _=>S.tu q.goal a.counts false false (by omega) (by omega)) rfl ?_
 conv=>whnf
 repeat(refine VC.mk (by first|exact id|(intro h; rw[h]; rfl)) ?_; conv=>whnf)
 exact ak.bool (by rw[nJ,aaj])
theorem aap{l:List Elem}{e:Elem}(h:tJ l e=true):e∈l:=by
 unfold tJ at h
 rw[Bool.and_eq_true] at h
 have h1:=of_decide_eq_true h.1
 have h2:=of_decide_eq_true h.2
 rw[iY] at h2
 rw[<- h2]
 have:=Jb (l:=l) (e:=e) l.length
 exact dF (by omega)
theorem Nu{l:List Elem}{e:Elem}(h:tJ l e=false):(nR l e).length=l.length+1:=by
 have:=Jb (l:=l) (e:=e) l.length
 rw[nR,if_neg (by rw[h]; decide),List.length_append,List.length_cons,List.length_take,List.length_drop]; omega
theorem Ri{l:List Elem}(h:SS l):l.Nodup:=by
 unfold SS at h
 refine h.imp fun {a b} hab e=>?_
 have h0:fE a b=0:=by rw[iY]; exact e
 omega
theorem J4{p:aC}{l:List Elem}(hc:AZ p=0)(hn:l.Nodup)(hs: ∀ x∈l,Un p x):l.length<=2187:=by
 have hv:=lT (iP (nV hc)).1
 have h1:=Q8 hn fun x hx=>(hs x hx).univ
 rw[Np] at h1
 have h3:3^p.states.length<=3^6:=Nat.pow_le_pow_right (by decide) hv.states
 have hva:=hv.values
 have h2:max 1 p.values.length<=3:=by omega
 exact Nat.le_trans h1 (Nat.le_trans (Nat.mul_le_mul h2 h3) (by decide))
def BF(p:aC)(x:Elem)(k:Nat):List Elem:=(p.rules.take k).flatMap fun r=>gI r x
theorem Yj{p:aC}{x:Elem}{k:Nat}(hk:k<p.rules.length):BF p x (k+1)=BF p x k++gI (p.rules.getD k default) x:=by
 unfold BF
 have ht:p.rules.take (k+1)=p.rules.take k++[p.rules.getD k default]:=by rw[List.take_add_one]; simp[hk]
 rw[ht,List.flatMap_append]; simp
theorem Rj{p:aC}{x:Elem}{k:Nat}(hc:AZ p=0)(h:G9 x):(BF p x k).length<=5832:=by
 have hv:=(lT (iP (nV hc)).1).O5
 have h1:=Fg (f:=fun r=>gI r x) (k:=729) (l:=p.rules.take k) fun r _=>yT h
 rw[List.length_take] at h1
 unfold BF
 have h2:min k p.rules.length<=8:=by omega
 exact Nat.le_trans h1 (Nat.le_trans (Nat.mul_le_mul_right 729 h2) (by decide))
theorem Rk{p:aC}{x y:Elem}:y∈BF p x p.rules.length↔ ∃ r∈p.rules,y∈gI r x:=by
 unfold BF
 rw[List.take_length,List.mem_flatMap]
structure BG(p:aC)(q:Prop')(T O:List Elem)(i:Nat):Prop where
 ss:SS O
 rc: ∀ x∈O,Nq p q x
 gen: ∀ x∈T,x∈nI p q\/ ∃ y r,Nq p q y/\r∈p.rules/\x∈gI r y
 ini: ∀ x∈nI p q,x∈T
 dn: ∀ j,j<i->nJ q (T.getD j default)=true->T.getD j default∈O
 cl: ∀ x∈O,∀ r∈p.rules,∀ y∈gI r x,y∈T
 le:i<=T.length
 tl:T.length<=729+O.length*5832
theorem BG.zero{p:aC}{q:Prop'}(hc:AZ p=0):BG p q (nI p q) [] 0 :=
 ⟨by simp[SS],(fun x hx=>by cases hx),(fun x hx=>.inl hx),(fun x hx=>hx),(fun j hj=>by omega),(fun x hx=>by cases hx),Nat.zero_le _,by
  have:=Rh (p:=p) (q:=q) (lT (iP (nV hc)).1).states
  simpa using this⟩
theorem BG.reach{p:aC}{q:Prop'}{T O:List Elem}{i:Nat}(h:BG p q T O i){x:Elem}(hx:x∈T)(hl:nJ q x=true):Nq p q x:=by
 rcases h.gen x hx with g|⟨y,r,g1,g2,g3⟩
 ·exact .ini g hl
 ·exact .stp g1 g2 g3 hl
theorem BG.st{p:aC}{q:Prop'}{T O:List Elem}{i:Nat}(hc:AZ p=0)(h:BG p q T O i){x:Elem}(hx:x∈T):Un p x:=by
 rcases h.gen x hx with g|⟨y,r,g1,g2,g3⟩
 ·exact .ini hc g
 ·exact(g1.st hc).post hc g2 g3
theorem BG.skip{p:aC}{q:Prop'}{T O:List Elem}{i:Nat}(h:BG p q T O i)(hi:i<T.length)(hs:nJ q (T.getD i default)=true->T.getD i default∈O):BG p q T O (i+1) :=
 ⟨h.ss,h.rc,h.gen,h.ini,fun j hj hl=>by
  rcases Nat.lt_or_ge j i with g|g
  ·exact h.dn j g hl
  ·have:j=i:=by omega
   subst this
   exact hs hl,h.cl,hi,h.tl⟩
theorem BG.next{p:aC}{q:Prop'}{T O:List Elem}{i:Nat}(hc:AZ p=0)(h:BG p q T O i)(hi:i<T.length)(hl:nJ q (T.getD i default)=true)(hf:tJ O (T.getD i default)=false):BG p q (T++BF p (T.getD i default) p.rules.length) (nR O (T.getD i default)) (i+1):=by
 have hm:T.getD i default∈T:=dF hi
 have hR:=h.reach hm hl
 have hS:=h.st hc hm
 obtain⟨s1,s2⟩:=J5 (e:=T.getD i default) h.ss
 have hg: ∀ j,j<T.length->(T++BF p (T.getD i default) p.rules.length).getD j default=T.getD j default:=fun j hj=>by
  rw[List.getD_eq_getElem?_getD,List.getElem?_append_left hj,<- List.getD_eq_getElem?_getD]
 refine⟨s1,fun x hx=>?_,fun x hx=>?_,fun x hx=>List.mem_append_left _ (h.ini x hx),fun j hj hlk=>?_,fun x hx r hr y hy=>?_,?_,?_⟩
 ·rcases(s2 x).1 hx with rfl|g
  ·exact hR
  ·exact h.rc x g
 ·rcases List.mem_append.1 hx with g|g
  ·exact h.gen x g
  ·obtain⟨r,g1,g2⟩:=Rk.1 g
   exact .inr ⟨_,r,hR,g1,g2⟩
 ·rw[hg j (by omega)] at hlk ⊢
  rcases Nat.lt_or_ge j i with g|g
  ·exact(s2 _).2 (.inr (h.dn j g hlk))
  ·have:j=i:=by omega
   subst this
   exact(s2 _).2 (.inl rfl)
 ·rcases(s2 x).1 hx with rfl|g
  ·exact List.mem_append_right _ (Rk.2 ⟨r,hr,hy⟩)
  ·exact List.mem_append_left _ (h.cl x g r hr y hy)
 ·rw[List.length_append]; omega
 ·have h1:=h.tl
  have h2:=Rj (k:=p.rules.length) hc hS.abs
  rw[List.length_append,Nu hf]; omega
theorem BG.done{p:aC}{q:Prop'}{T O:List Elem}{i:Nat}(h:BG p q T O i)(hi:T.length<=i)(x:Elem):x∈O↔Nq p q x:=by
 have key: ∀ x,x∈T->nJ q x=true->x∈O:=fun x hx hl=>by
  obtain⟨n,hn,e⟩:=List.mem_iff_getElem.1 hx
  have e2:T.getD n default=x:=by rw[List.getD_eq_getElem?_getD,List.getElem?_eq_getElem hn]; exact e
  rw[<- e2] at hl ⊢
  exact h.dn n (by omega) hl
 refine⟨h.rc x,fun hx=>?_⟩
 induction hx with
 |ini hx hl=>exact key _ (h.ini _ hx) hl
 |stp _ hr hy hl ih=>exact key _ (h.cl _ ih _ hr _ hy) hl
theorem BG.len{p:aC}{q:Prop'}{T O:List Elem}{i:Nat}(hc:AZ p=0)(h:BG p q T O i):O.length<=2187:=J4 hc (Ri h.ss) fun x hx=>(h.rc x hx).st hc
abbrev objT(p:aC)(q:Prop')(T O:List Elem):List (Nat×OV):=[(0,OZ p),(1,pO q),(2,eH T),(3,eH O)]
set_option maxHeartbeats 2000000 in
theorem S.yX(p:aC)(q:Prop')(hp:dJ p)(hq:gG q)(hv:uU p q=0):aj Tryz.prog 26 [.dat (.gW p),.dat (.prop q)] (.row 3 false (.elems (bV p q))):=by
 have hc:=zV hv
 have hrl:=hp.rules
 refine aj.of Bd.yX (by simp) rfl rfl ?_
 conv=>whnf
 refine ah.mkRow (r:=.elems (nI p q)) (S.O4 p q hp hq (JO hv)) ?_
 conv=>whnf
 refine aB.nil 6 54 3 (by rfl) rfl rfl rfl ?_
 refine aB.nH 4 [2,3] (fun s:(List Elem×List Elem)×Nat=>[(7,.int s.2),(5,.own 2),(6,.own 3)]) (fun s=>objT p q s.1.1 s.1.2) (fun s=>BG p q s.1.1 s.1.2 s.2) (fun s=>(2187-s.1.2.length)*6000+(s.1.1.length-s.2)) ((nI p q,[]),0) [0,1,5,9] rfl (by decide) (fun _=>rfl) (.zero hc) ?_ ?_ ?_
 ·exact(sR rfl)
 ·exact⟨aT rfl rfl,aT rfl rfl,aT rfl rfl,aT rfl rfl,trivial⟩
 conv=>whnf
 refine⟨(sR rfl),rfl,?_⟩
 rintro⟨⟨T,O⟩,i⟩ hI
 have hO:=hI.len hc
 have hT:=hI.tl
 have hle:=hI.le
 simp only at hO hT hle ⊢
 conv=>whnf
 refine⟨fun h1=>?_,fun h1=>?_⟩
 ·have hi:i<T.length:=by simpa using h1
  have hm:T.getD i default∈T:=dF hi
  have hS:=hI.st hc hm
  have hsl:=hS.abs.len
  conv=>whnf
  repeat(refine VC.mk (by simp only[Rw.rng] at *; first|omega|(simp_all; done)|(simp_all; omega)) ?_; conv=>whnf)
  refine ah.pure (S.wK q (T.getD i default) hq (by omega)) rfl ?_
  conv=>whnf
  refine⟨fun h2=>?_,fun h2=>?_⟩
  ·have hsO:eF O:=fun x hx=>by have:=((hI.rc x hx).st hc).abs.len; omega
   conv=>whnf
   repeat(refine VC.mk (by simp only[Rw.rng] at *; first|omega|(simp_all; done)|(simp_all; omega)) ?_; conv=>whnf)
   refine ah.insert (i:=3) (l:=O) (e:=T.getD i default) rfl rfl (by omega) hsO (by omega) (fun hf=>?_) (fun hf=>?_)
   ·conv=>whnf
    refine⟨fun h3=>?_,fun h3=>?_⟩
    ·conv=>whnf
     refine .mk (by simp only[okI] at *; first|omega|(simp_all; done)|(simp_all; omega)) ?_
     conv=>whnf
     refine⟨((T,O),i+1),[0,1,2,3],hI.skip hi (fun _=>aap hf),by simp only; omega,(sR rfl),(sR rfl),aT rfl rfl,aT rfl rfl,aT rfl rfl,aT rfl rfl,trivial⟩
    ·exact absurd h3 (by simp)
   ·have hnext:=hI.next hc hi h2 hf
    have hin:=Nu hf
    have hO2:=hnext.len hc
    simp only at hO2 hnext
    conv=>whnf
    refine⟨fun h3=>?_,fun h3=>?_⟩
    ·exfalso
     replace h3:decide (((nR O (T.getD i default)).length:Int)=O.length)=true:=h3
     rw[hin] at h3
     have:=of_decide_eq_true h3
     omega
    ·conv=>whnf
     refine aB.nH 4 [2,3,7] (fun k:Nat=>[(9,.int k),(5,.own 2),(6,.own 3)]) (fun k=>objT p q (T++BF p (T.getD i default) k) (nR O (T.getD i default))) (fun k=>k<=p.rules.length) (fun k=>p.rules.length-k) 0 [0,1,2,22] rfl (by decide) (fun _=>rfl) (Nat.zero_le _) ?_ ?_ ?_
     ·exact(sR rfl)
     ·exact⟨aT rfl rfl,aT rfl rfl,okF rfl nofun rfl rfl rfl ⟨rfl,rfl⟩ (by rw[show BF p (T.getD i default) 0=[] from rfl,List.append_nil]),aT rfl rfl,trivial⟩
     conv=>whnf
     refine⟨(sR rfl),rfl,?_⟩
     rintro k hk
     have hat:(T++BF p (T.getD i default) k).getD i default=T.getD i default:=by
      rw[List.getD_eq_getElem?_getD,List.getElem?_append_left hi,<- List.getD_eq_getElem?_getD]
     have hnl:=Rj (k:=k) hc hS.abs
     have hal:(T++BF p (T.getD i default) k).length=T.length+(BF p (T.getD i default) k).length:=List.length_append
     conv=>whnf
     refine⟨fun h4=>?_,fun h4=>?_⟩
     ·have hk':k<p.rules.length:=by simpa using h4
      have hstep:=Yj (x:=T.getD i default) hk'
      conv=>whnf
      repeat(refine VC.mk (by simp only[Rw.rng]; omega) ?_; conv=>whnf)
      have hpl:sZ ((T++BF p (T.getD i default) k).getD i default).counts.length (p.rules.getD (k:Int).toNat default):=by rw[hat,hS.len]; exact(wtR hc hk').place
      refine ah.pure (S.yP p k ((T++BF p (T.getD i default) k).getD i default) hp hpl (by omega) (by rw[hat]; exact hS.abs)) rfl ?_
      rw[hat]
      have hpo:=yT (r:=p.rules.getD (k:Int).toNat default) hS.abs
      conv=>whnf
      repeat(refine VC.mk (by first|(simp only[nY,o9,Rw.len,List.length_append]; omega)|(simp only[okI] at *; first|omega|(simp_all; done)|(simp_all; omega))) ?_; conv=>whnf)
      refine⟨k+1,[0,1,17,3],hk',by omega,(sR rfl),(sR rfl),aT rfl rfl,aT rfl rfl,okF rfl nofun rfl rfl rfl ⟨rfl,rfl⟩ ?_,aT rfl rfl,trivial⟩
      rw[hstep,<- List.append_assoc]; rfl
     ·have hk2: ¬ k<p.rules.length:=by simpa using h4
      have hk':k=p.rules.length:=by omega
      subst hk'
      conv=>whnf
      refine .mk (by simp only[okI] at *; first|omega|(simp_all; done)|(simp_all; omega)) ?_
      conv=>whnf
      refine⟨((T++BF p (T.getD i default) p.rules.length,nR O (T.getD i default)),i+1),[0,1,2,3],hnext,by simp only; omega,(sR rfl),(sR rfl),aT rfl rfl,aT rfl rfl,aT rfl rfl,aT rfl rfl,trivial⟩
  ·conv=>whnf
   refine⟨fun h3=>?_,fun h3=>?_⟩
   ·conv=>whnf
    refine .mk (by simp only[okI] at *; first|omega|(simp_all; done)|(simp_all; omega)) ?_
    conv=>whnf
    refine⟨((T,O),i+1),[0,1,2,3],hI.skip hi (fun h=>absurd (h.symm.trans h2) (by decide)),by simp only; omega,(sR rfl),(sR rfl),aT rfl rfl,aT rfl rfl,aT rfl rfl,aT rfl rfl,trivial⟩
   ·exact absurd h3 (by simp)
 ·have hi:T.length<=i:=by simpa using h1
  rw[<- yU hc hI.ss (hI.done hi)]
  conv=>whnf
  exact ak.X5 rfl
theorem zX{p:aC}{q:Prop'}{k:Int}(h:Bg p q k=0):uU p q=0:=by
 unfold Bg at h
 cases hb:(uU p q==0)&&(q.kind !=k) with
 |true=>rw[hb] at h; exact absurd (show(7:Int)=0 from h) (by decide)
 |false=>rw[hb] at h; exact h
noncomputable def rcL(p:aC)(q:Prop'):List Elem:=@ite _ (uU p q=0) (Classical.propDecidable _) (bV p q) []
theorem aeV{p:aC}{q:Prop'}(h:uU p q≠0):rcL p q=[]:=if_neg h
theorem Jc{p:aC}{q:Prop'}(h:uU p q=0):rcL p q=bV p q:=if_pos h
theorem UN(p:aC)(q:Prop'):(rcL p q).length<=2187/\ ∀ x∈rcL p q,Un p x:=by
 by_cases h:uU p q=0
 ·have hc:=zV h
  rw[Jc h]
  have hs: ∀ x∈bV p q,Un p x:=fun x hx=>((J3 hc).1 hx).st hc
  exact⟨J4 hc (Ri (uD _)) hs,hs⟩
 ·rw[aeV h]; exact⟨by decide,fun x hx=>by cases hx⟩
structure ait(n:Nat)(q:Prop'):Prop where
 place: ∀ k∈q.bad,rE n k.states
 least: ∀ k∈q.bad,1<=k.least/\k.least<=3
 some: ∀ k∈q.bad,k.states≠[]
end Go.Proofs.YtajmbgljnaljiaaGreatDoor
namespace Go.Proofs.YtajmbgljnaljiaaGreatDoor
open Go.Ab Go.Proofs
set_option maxRecDepth 100000
end Go.Proofs.YtajmbgljnaljiaaGreatDoor
