/-
 What is met is what can be reached: plain laws. No condition.
-/
import Derived.Test.YtajmbgljnaljiaaGreatDoorAc
import Derived.Test.YtajmbgljnaljiaaGreatDoorBc
namespace Go.Proofs.YtajmbgljnaljiaaGreatDoor
open Go.Ab Go.Proofs
set_option maxRecDepth 100000
theorem aeY{a:Elem}{l:List Elem}:WE a l=true↔a∈l:=by
 unfold WE
 rw[List.any_eq_true]
 constructor
 ·rintro⟨b,hb,h⟩
  rw[beq_iff_eq,iW] at h
  rw[h]; exact hb
 ·intro h; exact⟨a,h,by rw[beq_iff_eq,iW]⟩
theorem Q7{q:Prop'}: ∀ {l out:List Elem},out.Nodup->(iq q out l).Nodup:=by
 intro l
 induction l with
 |nil=>intro out h; exact h
 |cons a l ih =>
  intro out h
  refine ih (out:=pz q out a) ?_
  unfold pz
  split
  ·rename_i hk
   rw[Bool.and_eq_true,Bool.not_eq_true'] at hk
   refine List.nodup_append.2 ⟨h,List.nodup_cons.2 ⟨nofun,List.nodup_nil⟩,fun x hx y hy=>?_⟩
   rw[List.mem_singleton] at hy
   subst hy
   rintro rfl
   rw[aeY.2 hx] at hk
   exact absurd hk.1 (by decide)
  ·exact h
theorem Nj{q:Prop'}: ∀ {l out:List Elem},∃ t,iq q out l=out++t:=by
 intro l
 induction l with
 |nil=>intro out; exact⟨[],by simp[iq]⟩
 |cons a l ih =>
  intro out
  obtain⟨t,ht⟩:=ih (out:=pz q out a)
  have h1: ∃ u,pz q out a=out++u:=by
   unfold pz
   split
   ·exact⟨[a],rfl⟩
   ·exact⟨[],by simp⟩
  obtain⟨u,hu⟩:=h1
  refine⟨u++t,?_⟩
  show iq q (pz q out a) l=_
  rw[ht,hu,List.append_assoc]
theorem Nk{q:Prop'}{l out:List Elem}{i:Nat}(hi:i<out.length):(iq q out l).getD i default=out.getD i default:=by
 obtain⟨t,ht⟩:=Nj (q:=q) (l:=l) (out:=out)
 rw[ht,List.getD_eq_getElem?_getD,List.getElem?_append_left hi,List.getD_eq_getElem?_getD]
theorem aaq{q:Prop'}{l out:List Elem}:out.length<=(iq q out l).length:=by
 obtain⟨t,ht⟩:=Nj (q:=q) (l:=l) (out:=out)
 rw[ht,List.length_append]; omega
structure En(p:aC)(q:Prop')(out:List Elem)(i:Nat):Prop where
 nd:out.Nodup
 rc: ∀ x∈out,Nh p q x
 ini: ∀ x∈nH p q,nI q x=true->x∈out
 cl: ∀ j,j<i-> ∀ r∈p.rules,∀ y∈gy r (out.getD j default),nI q y=true->y∈out
 le:i<=out.length
theorem En.zero(p:aC)(q:Prop'):En p q (iq q [] (nH p q)) 0 :=
 ⟨Q7 List.nodup_nil,fun x hx=>by
  rcases tC.1 hx with h|⟨h,g⟩
  ·cases h
  ·exact .ini h g,fun x hx hl=>tC.2 (.inr ⟨hx,hl⟩),fun j hj=>by omega,Nat.zero_le _⟩
structure Q8(p:aC)(q:Prop')(i:Nat)(x:Elem)(out:List Elem)(k:Nat):Prop where
 inv:En p q out i
 lt:i<out.length
 at':out.getD i default=x
 kl:k<=p.rules.length
 cl: ∀ j,j<k-> ∀ y∈gy (p.rules.getD j default) x,nI q y=true->y∈out
theorem Q8.zero{p:aC}{q:Prop'}{out:List Elem}{i:Nat}(h:En p q out i)(hi:i<out.length):Q8 p q i (out.getD i default) out 0 :=
 ⟨h,hi,rfl,Nat.zero_le _,fun j hj=>by omega⟩
theorem Q8.next{p:aC}{q:Prop'}{out:List Elem}{i k:Nat}{x:Elem}(h:Q8 p q i x out k)(hk:k<p.rules.length):Q8 p q i x (iq q out (gy (p.rules.getD k default) x)) (k+1):=by
 have hle:=aaq (q:=q) (l:=gy (p.rules.getD k default) x) (out:=out)
 have hlt:=h.lt
 have hx:x∈out:=by rw[<- h.at']; exact bZ h.lt
 refine⟨⟨Q7 h.inv.nd,fun y hy=>?_,fun y hy hl=>tC.2 (.inl (h.inv.ini y hy hl)),fun j hj r hr y hy hl=>?_,by omega⟩,by omega,?_,hk,fun j hj y hy hl=>?_⟩
 ·rcases tC.1 hy with g|⟨g,gl⟩
  ·exact h.inv.rc y g
  ·exact .stp (h.inv.rc x hx) (bZ hk) g gl
 ·rw[Nk (by omega)] at hy
  exact tC.2 (.inl (h.inv.cl j hj r hr y hy hl))
 ·rw[Nk h.lt]; exact h.at'
 ·refine tC.2 ?_
  rcases Nat.lt_or_ge j k with g|g
  ·exact .inl (h.cl j g y hy hl)
  ·have:j=k:=by omega
   subst this
   exact .inr ⟨hy,hl⟩
theorem Q8.all{p:aC}{q:Prop'}{out:List Elem}{i k:Nat}{x:Elem}(h:Q8 p q i x out k)(hk:p.rules.length<=k):En p q out (i+1):=by
 refine⟨h.inv.nd,h.inv.rc,h.inv.ini,fun j hj r hr y hy hl=>?_,h.lt⟩
 rcases Nat.lt_or_ge j i with g|g
 ·exact h.inv.cl j g r hr y hy hl
 ·have:j=i:=by omega
  subst this
  rw[h.at'] at hy
  obtain⟨n,hn,e⟩:=List.mem_iff_getElem.1 hr
  have e2:p.rules.getD n default=r:=by rw[List.getD_eq_getElem?_getD,List.getElem?_eq_getElem hn]; exact e
  exact h.cl n (by omega) y (by rw[e2]; exact hy) hl
theorem En.done{p:aC}{q:Prop'}{out:List Elem}{i:Nat}(h:En p q out i)(hi:out.length<=i)(x:Elem):x∈out↔Nh p q x:=by
 refine⟨h.rc x,fun hx=>?_⟩
 induction hx with
 |ini hx hl=>exact h.ini _ hx hl
 |stp _ hr hy hl ih =>
  obtain⟨n,hn,e⟩:=List.mem_iff_getElem.1 ih
  refine h.cl n (by omega) _ hr _ ?_ hl
  rw[List.getD_eq_getElem?_getD,List.getElem?_eq_getElem hn,Option.getD_some,e]; exact hy
theorem En.st{p:aC}{q:Prop'}(hc:AQ p=0){out:List Elem}{i:Nat}(h:En p q out i): ∀ x∈out,Ur p x:=fun x hx=>(h.rc x hx).st hc
theorem yX{r:Rule}{a:Elem}(h:G5 a):(gy r a).length<=729:=by
 have h1:=Yi (lK r (lZ a.value (iJ a.counts)))
 have h2:=Di (r:=r) (l:=lZ a.value (iJ a.counts))
 have h3:(lZ a.value (iJ a.counts)).length<=729:=OL (vC (QK a.counts) a.counts.length) (by rw[kM]; exact h.len)
 unfold gy; omega
theorem Q9{p:aC}{q:Prop'}(hst:p.states.length<=6):(nH p q).length<=729:=by
 unfold nH initK
 rw[List.length_map]
 have h1:=List.length_filter_le (QM p q) (allM 2 p.states.length)
 rw[pU] at h1
 have h3:(2+1)^p.states.length<=3^6:=Nat.pow_le_pow_right (by decide) hst
 have h36:3^6=729:=by decide
 omega
theorem En.len{p:aC}{q:Prop'}(hp:dL p)(hc:AQ p=0){out:List Elem}{i:Nat}(h:En p q out i):out.length<=(DZ p).length/\(DZ p).length<=764411904:=Yh hp hc h.nd (h.st hc)
theorem En.small{p:aC}{q:Prop'}(hc:AQ p=0){out:List Elem}{i:Nat}(h:En p q out i):eF out:=fun x hx=>by
 have:=(h.st hc x hx).abs.len; omega
noncomputable def dG(p:aC)(q:Prop'):List Elem:=uy ((DZ p).filter fun x=>@decide (Nh p q x) (Classical.propDecidable _))
theorem JW{p:aC}{q:Prop'}(hc:AQ p=0){x:Elem}:x∈dG p q↔Nh p q x:=by
 unfold dG
 rw[oP,List.mem_filter]
 constructor
 ·rintro⟨_,h⟩; exact @of_decide_eq_true _ (Classical.propDecidable _) h
 ·intro h; exact⟨(h.st hc).univ,@decide_eq_true _ (Classical.propDecidable _) h⟩
theorem yY{p:aC}{q:Prop'}(hc:AQ p=0){l:List Elem}(hs:SS l)(h: ∀ x,x∈l↔Nh p q x):l=dG p q :=
 GY hs (uz _) fun x=>by rw[h]; exact(JW hc).symm
theorem acO{Z:Nat->Prop}{h:Hp}{k:Nat}:T.sub Z h (V.row k false (.elems [])).aI (V.row 0 true .nil).aI:=by
 simp only[V.aI]; exact⟨.inl rfl,.inr rfl,fun h=>by cases h⟩
abbrev LV(p:aC):OV:=.box 27 11 (.dat (.iE p))
abbrev agD(p:aC)(q:Prop')(out:List Elem):List (Nat×OV):=[(0,LV p),(1,pF q),(3,DR 4),(4,eH out)]
set_option maxHeartbeats 2000000 in
theorem S.wK(p:aC)(q:Prop')(hp:dL p)(hq:iF q)(hv:vk p q=0):aj Tryz.prog 23 [.dat (.iE p),.dat (.prop q)] (.row 3 false (.elems (dG p q))):=by
 have hc:=uT hv
 have hst:=(kU (gu (lS hc)).1).states
 have ait:=Q9 (q:=q) hst
 have hz:=En.zero p q
 have hrl:=hp.rules
 refine aj.of Bd.wK (by simp) rfl rfl ?_
 conv=>whnf
 refine ah.pure (S.rO p q hp hq (JJ hv)) rfl ?_
 rw[aeU]
 conv=>whnf
 have hsi:eF (nH p q):=fun x hx=>by have:=(Ur.ini hc hx).abs.len; omega
 refine ah.aao (q:=q) (l:=nH p q) hq (by omega) hsi rfl rfl (by decide) rfl (fun h0=>?_) (fun x o hm=>?_)
 ·conv=>whnf
  refine aB.times 1 rfl ?_
  conv=>whnf
  refine Fork.mk (fun q=>absurd (q.symm.trans ((rfl:decide ((0:Int)<0)=false))).symm Bool.false_ne_true) (fun _=>?_)
  conv=>whnf
  refine ah.pure (S.UW) rfl ?_
  conv=>whnf
  rw[h0] at hz
  rw[<- yY hc (l:=[]) (by simp[SS]) (hz.done (Nat.le_refl _))]
  exact⟨acO⟩
 ·rw[hm] at hz
  generalize ho:x::o=o1 at hz ⊢
  clear ho hm
  conv=>whnf
  refine aB.nD 5 [2,3,5,6] (fun s:List Elem×Nat=>[(7,.int s.2)]) (fun s=>agD p q s.1) (fun s=>En p q s.1 s.2) (fun s=>(DZ p).length-s.2) (o1,0) [0,1,3,10] rfl (by decide) (fun _=>rfl) hz ?_ ?_ ?_
  ·exact(sR rfl)
  ·exact⟨aT rfl rfl,aT rfl rfl,kX rfl rfl rfl ⟨rfl,rfl⟩ (bD.of_eq rfl),aT rfl rfl,trivial⟩
  conv=>whnf
  refine⟨(sR rfl),rfl,?_⟩
  rintro⟨out,i⟩ hI
  obtain⟨hU1,hU2⟩:=hI.len hp hc
  have hle:=hI.le
  have hso:=hI.small hc
  simp only at hU1 hle hso ⊢
  conv=>whnf
  refine⟨fun h1=>?_,fun h1=>?_⟩
  ·have hi:i<out.length:=by simpa using h1
   conv=>whnf
   refine aB.nD 5 [2,3,5,6,7,23,24] (fun s:List Elem×Nat=>[(25,.int s.2)]) (fun s=>agD p q s.1) (fun s=>Q8 p q i (out.getD i default) s.1 s.2) (fun s=>p.rules.length-s.2) (out,0) [0,1,3,4] rfl (by decide) (fun _=>rfl) (.zero hI hi) ?_ ?_ ?_
   ·exact(sR rfl)
   ·exact⟨aT rfl rfl,aT rfl rfl,kX rfl rfl rfl ⟨rfl,rfl⟩ (bD.of_eq rfl),aT rfl rfl,trivial⟩
   conv=>whnf
   refine⟨(sR rfl),rfl,?_⟩
   rintro⟨o2,k⟩ hM
   obtain⟨hV1,_⟩:=hM.inv.len hp hc
   have hs2:=hM.inv.small hc
   have hlt:=hM.lt
   have hat:=hM.at'
   have hSt:=hM.inv.st hc _ (bZ (d:=default) hlt)
   simp only at hV1 hs2 hlt hat hSt ⊢
   conv=>whnf
   refine⟨fun h2=>?_,fun h2=>?_⟩
   ·have hk:k<p.rules.length:=by simpa using h2
    have hnx:=hM.next hk
    simp only at hnx
    conv=>whnf
    repeat(refine VC.mk (by simp only[Rw.rng] at *; first|omega|(simp_all; done)|(simp_all; omega)) ?_; conv=>whnf)
    have hpl:sW (o2.getD i default).counts.length (p.rules.getD k default):=by rw[hSt.len]; exact(wtR hc hk).place
    refine ah.pure (S.sZ (p.rules.getD k default) (o2.getD i default) (hp.rule k) hpl hSt.abs.ok hSt.abs.pos hSt.abs.len) rfl ?_
    have hpo:=yX (r:=p.rules.getD k default) hSt.abs
    have hsp:eF (gy (p.rules.getD k default) (o2.getD i default)):=fun y hy=>by rw[G6 hy]; have:=hSt.abs.len; omega
    conv=>whnf
    refine ah.aan (q:=q) (out:=o2) (l:=gy (p.rules.getD k default) (o2.getD i default)) hq (by omega) hs2 hsp rfl rfl rfl (by decide) (by decide) (by decide) rfl ?_
    conv=>whnf
    refine .mk (by simp only[okI] at *; first|omega|(simp_all; done)|(simp_all; omega)) ?_
    conv=>whnf
    refine⟨(iq q o2 (gy (p.rules.getD k default) (o2.getD i default)),k+1),[0,1,3,17],by rw[hat]; exact hnx,by simp only; omega,(sR rfl),(sR rfl),aT rfl rfl,aT rfl rfl,kX rfl rfl rfl ⟨rfl,rfl⟩ (bD.of_eq rfl),aT rfl rfl,trivial⟩
   ·have hk:p.rules.length<=k:=by simpa using h2
    conv=>whnf
    refine .mk (by simp only[okI] at *; first|omega|(simp_all; done)|(simp_all; omega)) ?_
    conv=>whnf
    refine⟨(o2,i+1),[0,1,3,4],hM.all hk,by simp only; omega,(sR rfl),(sR rfl),aT rfl rfl,aT rfl rfl,kX rfl rfl rfl ⟨rfl,rfl⟩ (bD.of_eq rfl),aT rfl rfl,trivial⟩
  ·have hi:out.length<=i:=by simpa using h1
   conv=>whnf
   refine ah.Z4 rfl rfl (by omega) hso ?_ (fun m=>?_)
   ·rw[yY hc (uz out) (fun x=>(oP out x).trans (hI.done hi x))]
    conv=>whnf
    exact ak.X5 rfl
   ·rw[yY hc (uz out) (fun x=>(oP out x).trans (hI.done hi x))]
    conv=>whnf
    exact ak.aeR rfl
set_option maxHeartbeats 1000000 in
theorem S.OW(p:aC)(q:Prop')(hp:dL p)(hq:iF q)(hv:jr p q=0)(n:Nat):aV Tryz.prog 51 (V.aS [.dat (.iE p),.dat (.prop q)]) (Hz.au []) n (fun t hp=>t= .own n/\hp=Hz.au [(n,some (eH (nH p q)))]):=by
 have hst:=(kU (zY hv)).states
 have hpos:=(kU (zY hv)).pos
 have hsl:=MS hp hq
 refine pO.of (nx:=0) Bd.BF (by simp) ⟨_,_,rfl,rfl⟩ rfl rfl ?_
 conv=>whnf
 refine ah.pure (S.wL p q hp hq hv) rfl ?_
 conv=>whnf
 refine ah.pure (S.QL 2 p.states.length hpos hst (by decide)) rfl ?_
 conv=>whnf
 have hal:=pU (m:=2) (n:=p.states.length)
 have hal2:(2+1)^p.states.length<=3^6:=Nat.pow_le_pow_right (by decide) hst
 have h36:3^6=729:=by decide
 refine aB.nil 8 54 3 (by rfl) rfl rfl rfl ?_
 refine aB.nD 19 [5,7] (fun i:Nat=>[(9,.int i),(8,.own 18)]) (fun i=>[(18,eH (initK p q ((allM 2 p.states.length).take i)))]) (fun i=>i<=(allM 2 p.states.length).length) (fun i=>(allM 2 p.states.length).length-i) 0 [18] rfl (by decide) (fun _=>rfl) (Nat.zero_le _) ?_ ?_ ?_
 ·exact(sR rfl)
 ·exact⟨aT rfl rfl,trivial⟩
 conv=>whnf
 refine⟨(sR rfl),rfl,?_⟩
 rintro i hi
 have hkl:=X9 (p:=p) (q:=q) (l:=(allM 2 p.states.length).take i)
 rw[List.length_take] at hkl
 conv=>whnf
 refine⟨fun h1=>?_,fun h1=>?_⟩
 ·have hi':i<(allM 2 p.states.length).length:=by simpa using h1
  have hcl:((allM 2 p.states.length).getD i []).length=p.states.length:=(wJ.1 (bZ hi')).1
  have hstep:=UL (p:=p) (q:=q) hi'
  conv=>whnf
  refine .mk (by simp only[Rw.rng] at *; first|omega|(simp_all; done)|(simp_all; omega)) ?_
  conv=>whnf
  refine ah.pure (S.yZ ⟨0,(allM 2 p.states.length).getD i []⟩ (by show((allM 2 p.states.length).getD i []).length<_; omega)) rfl ?_
  conv=>whnf
  repeat(refine VC.mk (by first|exact id|exact fun h=>⟨h,h⟩|(intro h; (repeat' apply And.intro)<;>first|exact h|omega|(simp only[Rw.nO]; omega)|(simp only[Rw.rng]; omega))) ?_; conv=>whnf)
  refine ah.dM (fun _=>S.tq (mY p q) ((allM 2 p.states.length).getD i []) false false (by omega) (by omega)) rfl ?_
  conv=>whnf
  refine VC.mk id ?_
  conv=>whnf
  refine⟨fun h2=>?_,fun h2=>?_⟩
  ·replace h2:QM p q ((allM 2 p.states.length).getD i [])=true:=h2
   rw[if_pos h2] at hstep
   conv=>whnf
   refine ah.pure (S.uD ⟨0,(allM 2 p.states.length).getD i []⟩ (by show((allM 2 p.states.length).getD i []).length<_; omega)) rfl ?_
   conv=>whnf
   repeat(refine VC.mk (by first|(show((initK p q ((allM 2 p.states.length).take i)).length+(0+1))*32<=140737488355328/\(initK p q ((allM 2 p.states.length).take i)).length+(0+1)<=1152921504606846976; omega)|(simp only[okI] at *; first|omega|(simp_all; done)|(simp_all; omega))) ?_; conv=>whnf)
   refine⟨i+1,[45],by omega,by omega,(sR rfl),(sR rfl),okF rfl nofun rfl rfl rfl ⟨rfl,rfl⟩ ?_,trivial⟩
   rw[hstep]
   show List.map fD (initK p q ((allM 2 p.states.length).take i)++[⟨0,(allM 2 p.states.length).getD i []⟩])++[]=List.map fD (initK p q ((allM 2 p.states.length).take i))++[fD ⟨0,(allM 2 p.states.length).getD i []⟩]
   simp
  ·replace h2:QM p q ((allM 2 p.states.length).getD i [])=false:=h2
   rw[if_neg (by rw[h2]; decide),List.append_nil] at hstep
   conv=>whnf
   refine .mk (by simp only[okI] at *; first|omega|(simp_all; done)|(simp_all; omega)) ?_
   conv=>whnf
   refine⟨i+1,[18],by omega,by omega,(sR rfl),(sR rfl),okF rfl nofun rfl rfl rfl ⟨rfl,rfl⟩ (by rw[hstep]),trivial⟩
 ·have hi':(allM 2 p.states.length).length<=i:=by simpa using h1
  rw[List.take_of_length_le hi']
  conv=>whnf
  exact nP.one (c:=n) (j:=18) (o:=eH (nH p q)) (t:=.own n) rfl rfl rfl nofun (.inr rfl) rfl (.eq rfl) ⟨rfl,rfl⟩
theorem S.OX(p:aC)(q:Prop')(hp:dL p)(hq:iF q)(hv:jr p q=0):wC Tryz.prog 51 (V.aS [.dat (.iE p),.dat (.prop q)]) (fun n=>.own n) (some ⟨54,3,(Rw.elems (nH p q)).aS⟩):=by
 refine⟨rfl,fun n=>rfl,fun ob h=>?_,fun ob h=>?_,fun n=>?_⟩
 ·cases h; exact wI _
 ·cases h; exact show(3:Nat)≠fU by decide
 ·have:=S.OW p q hp hq hv n
  have e1:Hz.au [(n,some (eH (nH p q)))]=gZ no n (some ⟨54,3,(Rw.elems (nH p q)).aS⟩):=by
   rw[bG]; simp[gZ,OV.ay,V.aS]; rfl
  rw[e1] at this
  exact this
theorem S.wM(q:Prop')(a:Elem)(hq:iF q)(ha:a.counts.length<2^40):aj Tryz.prog 52 [.dat (.prop q),.dat (.elem a)] (.bool (nI q a)):=by
 have hg:=hq.goal
 refine aj.of Bd.wM (by simp) rfl rfl ?_
 conv=>whnf
 repeat(refine VC.mk (by first|exact id|exact fun h=>⟨h,h⟩) ?_; conv=>whnf)
 refine ah.dM (fun _=>S.tq q.goal a.counts false false (by omega) (by omega)) rfl ?_
 conv=>whnf
 repeat(refine VC.mk (by first|exact id|(intro h; rw[h]; rfl)) ?_; conv=>whnf)
 exact ak.bool (by rw[nI,aal])
theorem aar{l:List Elem}{e:Elem}(h:tH l e=true):e∈l:=by
 unfold tH at h
 rw[Bool.and_eq_true] at h
 have h1:=of_decide_eq_true h.1
 have h2:=of_decide_eq_true h.2
 rw[iW] at h2
 rw[<- h2]
 have:=I8 (l:=l) (e:=e) l.length
 exact bZ (by omega)
theorem Nl{l:List Elem}{e:Elem}(h:tH l e=false):(nR l e).length=l.length+1:=by
 have:=I8 (l:=l) (e:=e) l.length
 rw[nR,if_neg (by rw[h]; decide),List.length_append,List.length_cons,List.length_take,List.length_drop]; omega
theorem Rf{l:List Elem}(h:SS l):l.Nodup:=by
 unfold SS at h
 refine h.imp fun {a b} hab e=>?_
 have h0:fE a b=0:=by rw[iW]; exact e
 omega
theorem JX{p:aC}{l:List Elem}(hc:AQ p=0)(hn:l.Nodup)(hs: ∀ x∈l,Ur p x):l.length<=2187:=by
 have hv:=kU (gu (lS hc)).1
 have h1:=Q5 hn fun x hx=>(hs x hx).univ
 rw[Nc] at h1
 have h3:3^p.states.length<=3^6:=Nat.pow_le_pow_right (by decide) hv.states
 have hva:=hv.values
 have h2:max 1 p.values.length<=3:=by omega
 exact Nat.le_trans h1 (Nat.le_trans (Nat.mul_le_mul h2 h3) (by decide))
def BG(p:aC)(x:Elem)(k:Nat):List Elem:=(p.rules.take k).flatMap fun r=>gy r x
theorem Yj{p:aC}{x:Elem}{k:Nat}(hk:k<p.rules.length):BG p x (k+1)=BG p x k++gy (p.rules.getD k default) x:=by
 unfold BG
 have ht:p.rules.take (k+1)=p.rules.take k++[p.rules.getD k default]:=by rw[List.take_add_one]; simp[hk]
 rw[ht,List.flatMap_append]; simp
theorem Rh{p:aC}{x:Elem}{k:Nat}(hc:AQ p=0)(h:G5 x):(BG p x k).length<=5832:=by
 have hv:=(kU (gu (lS hc)).1).OY
 have h1:=Fa (f:=fun r=>gy r x) (k:=729) (l:=p.rules.take k) fun r _=>yX h
 rw[List.length_take] at h1
 unfold BG
 have h2:min k p.rules.length<=8:=by omega
 exact Nat.le_trans h1 (Nat.le_trans (Nat.mul_le_mul_right 729 h2) (by decide))
theorem Ri{p:aC}{x y:Elem}:y∈BG p x p.rules.length↔ ∃ r∈p.rules,y∈gy r x:=by
 unfold BG
 rw[List.take_length,List.mem_flatMap]
structure BH(p:aC)(q:Prop')(T O:List Elem)(i:Nat):Prop where
 ss:SS O
 rc: ∀ x∈O,Nh p q x
 gen: ∀ x∈T,x∈nH p q\/ ∃ y r,Nh p q y/\r∈p.rules/\x∈gy r y
 ini: ∀ x∈nH p q,x∈T
 dn: ∀ j,j<i->nI q (T.getD j default)=true->T.getD j default∈O
 cl: ∀ x∈O,∀ r∈p.rules,∀ y∈gy r x,y∈T
 le:i<=T.length
 tl:T.length<=729+O.length*5832
theorem BH.zero{p:aC}{q:Prop'}(hc:AQ p=0):BH p q (nH p q) [] 0 :=
 ⟨by simp[SS],(fun x hx=>by cases hx),(fun x hx=>.inl hx),(fun x hx=>hx),(fun j hj=>by omega),(fun x hx=>by cases hx),Nat.zero_le _,by
  have:=Q9 (p:=p) (q:=q) (kU (gu (lS hc)).1).states
  simpa using this⟩
theorem BH.reach{p:aC}{q:Prop'}{T O:List Elem}{i:Nat}(h:BH p q T O i){x:Elem}(hx:x∈T)(hl:nI q x=true):Nh p q x:=by
 rcases h.gen x hx with g|⟨y,r,g1,g2,g3⟩
 ·exact .ini g hl
 ·exact .stp g1 g2 g3 hl
theorem BH.st{p:aC}{q:Prop'}{T O:List Elem}{i:Nat}(hc:AQ p=0)(h:BH p q T O i){x:Elem}(hx:x∈T):Ur p x:=by
 rcases h.gen x hx with g|⟨y,r,g1,g2,g3⟩
 ·exact .ini hc g
 ·exact(g1.st hc).post hc g2 g3
theorem BH.skip{p:aC}{q:Prop'}{T O:List Elem}{i:Nat}(h:BH p q T O i)(hi:i<T.length)(hs:nI q (T.getD i default)=true->T.getD i default∈O):BH p q T O (i+1) :=
 ⟨h.ss,h.rc,h.gen,h.ini,fun j hj hl=>by
  rcases Nat.lt_or_ge j i with g|g
  ·exact h.dn j g hl
  ·have:j=i:=by omega
   subst this
   exact hs hl,h.cl,hi,h.tl⟩
theorem BH.next{p:aC}{q:Prop'}{T O:List Elem}{i:Nat}(hc:AQ p=0)(h:BH p q T O i)(hi:i<T.length)(hl:nI q (T.getD i default)=true)(hf:tH O (T.getD i default)=false):BH p q (T++BG p (T.getD i default) p.rules.length) (nR O (T.getD i default)) (i+1):=by
 have hm:T.getD i default∈T:=bZ hi
 have hR:=h.reach hm hl
 have hS:=h.st hc hm
 obtain⟨s1,s2⟩:=JY (e:=T.getD i default) h.ss
 have hg: ∀ j,j<T.length->(T++BG p (T.getD i default) p.rules.length).getD j default=T.getD j default:=fun j hj=>by
  rw[List.getD_eq_getElem?_getD,List.getElem?_append_left hj,<- List.getD_eq_getElem?_getD]
 refine⟨s1,fun x hx=>?_,fun x hx=>?_,fun x hx=>List.mem_append_left _ (h.ini x hx),fun j hj hlk=>?_,fun x hx r hr y hy=>?_,?_,?_⟩
 ·rcases(s2 x).1 hx with rfl|g
  ·exact hR
  ·exact h.rc x g
 ·rcases List.mem_append.1 hx with g|g
  ·exact h.gen x g
  ·obtain⟨r,g1,g2⟩:=Ri.1 g
   exact .inr ⟨_,r,hR,g1,g2⟩
 ·rw[hg j (by omega)] at hlk ⊢
  rcases Nat.lt_or_ge j i with g|g
  ·exact(s2 _).2 (.inr (h.dn j g hlk))
  ·have:j=i:=by omega
   subst this
   exact(s2 _).2 (.inl rfl)
 ·rcases(s2 x).1 hx with rfl|g
  ·exact List.mem_append_right _ (Ri.2 ⟨r,hr,hy⟩)
  ·exact List.mem_append_left _ (h.cl x g r hr y hy)
 ·rw[List.length_append]; omega
 ·have h1:=h.tl
  have h2:=Rh (k:=p.rules.length) hc hS.abs
  rw[List.length_append,Nl hf]; omega
theorem BH.done{p:aC}{q:Prop'}{T O:List Elem}{i:Nat}(h:BH p q T O i)(hi:T.length<=i)(x:Elem):x∈O↔Nh p q x:=by
 have key: ∀ x,x∈T->nI q x=true->x∈O:=fun x hx hl=>by
  obtain⟨n,hn,e⟩:=List.mem_iff_getElem.1 hx
  have e2:T.getD n default=x:=by rw[List.getD_eq_getElem?_getD,List.getElem?_eq_getElem hn]; exact e
  rw[<- e2] at hl ⊢
  exact h.dn n (by omega) hl
 refine⟨h.rc x,fun hx=>?_⟩
 induction hx with
 |ini hx hl=>exact key _ (h.ini _ hx) hl
 |stp _ hr hy hl ih=>exact key _ (h.cl _ ih _ hr _ hy) hl
theorem BH.len{p:aC}{q:Prop'}{T O:List Elem}{i:Nat}(hc:AQ p=0)(h:BH p q T O i):O.length<=2187:=JX hc (Rf h.ss) fun x hx=>(h.rc x hx).st hc
abbrev objT(p:aC)(q:Prop')(T O:List Elem):List (Nat×OV):=[(0,LV p),(1,pF q),(2,eH T),(3,eH O)]
set_option maxHeartbeats 2000000 in
theorem S.y5(p:aC)(q:Prop')(hp:dL p)(hq:iF q)(hv:vk p q=0):aj Tryz.prog 26 [.dat (.iE p),.dat (.prop q)] (.row 3 false (.elems (dG p q))):=by
 have hc:=uT hv
 have hrl:=hp.rules
 refine aj.of Bd.y5 (by simp) rfl rfl ?_
 conv=>whnf
 refine ah.mkRow (r:=.elems (nH p q)) (S.OX p q hp hq (JJ hv)) ?_
 conv=>whnf
 refine aB.nil 6 54 3 (by rfl) rfl rfl rfl ?_
 refine aB.nD 4 [2,3] (fun s:(List Elem×List Elem)×Nat=>[(7,.int s.2),(5,.own 2),(6,.own 3)]) (fun s=>objT p q s.1.1 s.1.2) (fun s=>BH p q s.1.1 s.1.2 s.2) (fun s=>(2187-s.1.2.length)*6000+(s.1.1.length-s.2)) ((nH p q,[]),0) [0,1,5,9] rfl (by decide) (fun _=>rfl) (.zero hc) ?_ ?_ ?_
 ·exact(sR rfl)
 ·exact⟨aT rfl rfl,aT rfl rfl,aT rfl rfl,aT rfl rfl,trivial⟩
 conv=>whnf
 refine⟨(sR rfl),rfl,?_⟩
 rintro⟨⟨T,O⟩,i⟩ hI
 have hO:=hI.len hc
 have hT:=hI.tl
 have hle:=hI.le
 simp only at hO hT hle ⊢
 conv=>whnf
 refine⟨fun h1=>?_,fun h1=>?_⟩
 ·have hi:i<T.length:=by simpa using h1
  have hm:T.getD i default∈T:=bZ hi
  have hS:=hI.st hc hm
  have hsl:=hS.abs.len
  conv=>whnf
  repeat(refine VC.mk (by simp only[Rw.rng] at *; first|omega|(simp_all; done)|(simp_all; omega)) ?_; conv=>whnf)
  refine ah.pure (S.wM q (T.getD i default) hq (by omega)) rfl ?_
  conv=>whnf
  refine⟨fun h2=>?_,fun h2=>?_⟩
  ·have hsO:eF O:=fun x hx=>by have:=((hI.rc x hx).st hc).abs.len; omega
   conv=>whnf
   repeat(refine VC.mk (by simp only[Rw.rng] at *; first|omega|(simp_all; done)|(simp_all; omega)) ?_; conv=>whnf)
   refine ah.insert (i:=3) (l:=O) (e:=T.getD i default) rfl rfl (by omega) hsO (by omega) (fun hf=>?_) (fun hf=>?_)
   ·conv=>whnf
    refine⟨fun h3=>?_,fun h3=>?_⟩
    ·conv=>whnf
     refine .mk (by simp only[okI] at *; first|omega|(simp_all; done)|(simp_all; omega)) ?_
     conv=>whnf
     refine⟨((T,O),i+1),[0,1,2,3],hI.skip hi (fun _=>aar hf),by simp only; omega,(sR rfl),(sR rfl),aT rfl rfl,aT rfl rfl,aT rfl rfl,aT rfl rfl,trivial⟩
    ·exact absurd h3 (by simp)
   ·have hnext:=hI.next hc hi h2 hf
    have hin:=Nl hf
    have hO2:=hnext.len hc
    simp only at hO2 hnext
    conv=>whnf
    refine⟨fun h3=>?_,fun h3=>?_⟩
    ·exfalso
     replace h3:decide (((nR O (T.getD i default)).length:Int)=O.length)=true:=h3
     rw[hin] at h3
     have:=of_decide_eq_true h3
     omega
    ·conv=>whnf
     refine aB.nD 4 [2,3,7] (fun k:Nat=>[(9,.int k),(5,.own 2),(6,.own 3)]) (fun k=>objT p q (T++BG p (T.getD i default) k) (nR O (T.getD i default))) (fun k=>k<=p.rules.length) (fun k=>p.rules.length-k) 0 [0,1,2,22] rfl (by decide) (fun _=>rfl) (Nat.zero_le _) ?_ ?_ ?_
     ·exact(sR rfl)
     ·exact⟨aT rfl rfl,aT rfl rfl,okF rfl nofun rfl rfl rfl ⟨rfl,rfl⟩ (by rw[show BG p (T.getD i default) 0=[] from rfl,List.append_nil]),aT rfl rfl,trivial⟩
     conv=>whnf
     refine⟨(sR rfl),rfl,?_⟩
     rintro k hk
     have hat:(T++BG p (T.getD i default) k).getD i default=T.getD i default:=by
      rw[List.getD_eq_getElem?_getD,List.getElem?_append_left hi,<- List.getD_eq_getElem?_getD]
     have hnl:=Rh (k:=k) hc hS.abs
     have hal:(T++BG p (T.getD i default) k).length=T.length+(BG p (T.getD i default) k).length:=List.length_append
     conv=>whnf
     refine⟨fun h4=>?_,fun h4=>?_⟩
     ·have hk':k<p.rules.length:=by simpa using h4
      have hstep:=Yj (x:=T.getD i default) hk'
      conv=>whnf
      repeat(refine VC.mk (by simp only[Rw.rng]; omega) ?_; conv=>whnf)
      have hpl:sW ((T++BG p (T.getD i default) k).getD i default).counts.length (p.rules.getD (k:Int).toNat default):=by rw[hat,hS.len]; exact(wtR hc hk').place
      refine ah.pure (S.yS p k ((T++BG p (T.getD i default) k).getD i default) hp hpl (by omega) (by rw[hat]; exact hS.abs)) rfl ?_
      rw[hat]
      have hpo:=yX (r:=p.rules.getD (k:Int).toNat default) hS.abs
      conv=>whnf
      repeat(refine VC.mk (by first|(simp only[nG,nY,Rw.len,List.length_append]; omega)|(simp only[okI] at *; first|omega|(simp_all; done)|(simp_all; omega))) ?_; conv=>whnf)
      refine⟨k+1,[0,1,17,3],hk',by omega,(sR rfl),(sR rfl),aT rfl rfl,aT rfl rfl,okF rfl nofun rfl rfl rfl ⟨rfl,rfl⟩ ?_,aT rfl rfl,trivial⟩
      rw[hstep,<- List.append_assoc]; rfl
     ·have hk2: ¬ k<p.rules.length:=by simpa using h4
      have hk':k=p.rules.length:=by omega
      subst hk'
      conv=>whnf
      refine .mk (by simp only[okI] at *; first|omega|(simp_all; done)|(simp_all; omega)) ?_
      conv=>whnf
      refine⟨((T++BG p (T.getD i default) p.rules.length,nR O (T.getD i default)),i+1),[0,1,2,3],hnext,by simp only; omega,(sR rfl),(sR rfl),aT rfl rfl,aT rfl rfl,aT rfl rfl,aT rfl rfl,trivial⟩
  ·conv=>whnf
   refine⟨fun h3=>?_,fun h3=>?_⟩
   ·conv=>whnf
    refine .mk (by simp only[okI] at *; first|omega|(simp_all; done)|(simp_all; omega)) ?_
    conv=>whnf
    refine⟨((T,O),i+1),[0,1,2,3],hI.skip hi (fun h=>absurd (h.symm.trans h2) (by decide)),by simp only; omega,(sR rfl),(sR rfl),aT rfl rfl,aT rfl rfl,aT rfl rfl,aT rfl rfl,trivial⟩
   ·exact absurd h3 (by simp)
 ·have hi:T.length<=i:=by simpa using h1
  rw[<- yY hc hI.ss (hI.done hi)]
  conv=>whnf
  exact ak.X5 rfl
theorem G7{p:aC}{q:Prop'}{k:Int}(h:GK p q k=0):vk p q=0:=by
 unfold GK at h
 cases hb:(vk p q==0)&&(q.kind !=k) with
 |true=>rw[hb] at h; exact absurd (show(7:Int)=0 from h) (by decide)
 |false=>rw[hb] at h; exact h
noncomputable def rcL(p:aC)(q:Prop'):List Elem:=@ite _ (vk p q=0) (Classical.propDecidable _) (dG p q) []
theorem aeZ{p:aC}{q:Prop'}(h:vk p q≠0):rcL p q=[]:=if_neg h
theorem I9{p:aC}{q:Prop'}(h:vk p q=0):rcL p q=dG p q:=if_pos h
theorem UY(p:aC)(q:Prop'):(rcL p q).length<=2187/\ ∀ x∈rcL p q,Ur p x:=by
 by_cases h:vk p q=0
 ·have hc:=uT h
  rw[I9 h]
  have hs: ∀ x∈dG p q,Ur p x:=fun x hx=>((JW hc).1 hx).st hc
  exact⟨JX hc (Rf (uz _)) hs,hs⟩
 ·rw[aeZ h]; exact⟨by decide,fun x hx=>by cases hx⟩
structure aiu(n:Nat)(q:Prop'):Prop where
 place: ∀ k∈q.bad,rE n k.states
 least: ∀ k∈q.bad,1<=k.least/\k.least<=3
 some: ∀ k∈q.bad,k.states≠[]
end Go.Proofs.YtajmbgljnaljiaaGreatDoor
namespace Go.Proofs.YtajmbgljnaljiaaGreatDoor
open Go.Ab Go.Proofs
set_option maxRecDepth 100000
end Go.Proofs.YtajmbgljnaljiaaGreatDoor
