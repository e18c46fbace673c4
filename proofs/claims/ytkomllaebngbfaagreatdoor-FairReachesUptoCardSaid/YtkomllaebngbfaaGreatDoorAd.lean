/-
 What is met is what can be reached: plain laws. No condition.
-/
import Derived.Test.YtkomllaebngbfaaGreatDoorAc
import Derived.Test.YtkomllaebngbfaaGreatDoorBc
namespace Go.Proofs.YtkomllaebngbfaaGreatDoor
open Go.Ab Go.Proofs
set_option maxRecDepth 100000
theorem ado{a:Elem}{l:List Elem}:Ut a l=true↔a∈l:=by
 unfold Ut
 rw[List.any_eq_true]
 constructor
 ·rintro⟨b,hb,h⟩
  rw[beq_iff_eq,ku] at h
  rw[h]; exact hb
 ·intro h; exact⟨a,h,by rw[beq_iff_eq,ku]⟩
theorem PL{q:Prop'}: ∀ {l out:List Elem},out.Nodup->(gZ q out l).Nodup:=by
 intro l
 induction l with
 |nil=>intro out h; exact h
 |cons a l ih =>
  intro out h
  refine ih (out:=oC q out a) ?_
  unfold oC
  split
  ·rename_i hk
   rw[Bool.and_eq_true,Bool.not_eq_true'] at hk
   refine List.nodup_append.2 ⟨h,List.nodup_cons.2 ⟨nofun,List.nodup_nil⟩,fun x hx y hy=>?_⟩
   rw[List.mem_singleton] at hy
   subst hy
   rintro rfl
   rw[ado.2 hx] at hk
   exact absurd hk.1 (by decide)
  ·exact h
theorem KZ{q:Prop'}: ∀ {l out:List Elem},∃ t,gZ q out l=out++t:=by
 intro l
 induction l with
 |nil=>intro out; exact⟨[],by simp[gZ]⟩
 |cons a l ih =>
  intro out
  obtain⟨t,ht⟩:=ih (out:=oC q out a)
  have h1: ∃ u,oC q out a=out++u:=by
   unfold oC
   split
   ·exact⟨[a],rfl⟩
   ·exact⟨[],by simp⟩
  obtain⟨u,hu⟩:=h1
  refine⟨u++t,?_⟩
  show gZ q (oC q out a) l=_
  rw[ht,hu,List.append_assoc]
theorem La{q:Prop'}{l out:List Elem}{i:Nat}(hi:i<out.length):(gZ q out l).getD i default=out.getD i default:=by
 obtain⟨t,ht⟩:=KZ (q:=q) (l:=l) (out:=out)
 rw[ht,List.getD_eq_getElem?_getD,List.getElem?_append_left hi,List.getD_eq_getElem?_getD]
theorem Yg{q:Prop'}{l out:List Elem}:out.length<=(gZ q out l).length:=by
 obtain⟨t,ht⟩:=KZ (q:=q) (l:=l) (out:=out)
 rw[ht,List.length_append]; omega
structure CG(p:aN)(q:Prop')(out:List Elem)(i:Nat):Prop where
 nd:out.Nodup
 rc: ∀ x∈out,Uw p q x
 ini: ∀ x∈nK p q,oN q x=true->x∈out
 cl: ∀ j,j<i-> ∀ r∈p.rules,∀ y∈mX r (out.getD j default),oN q y=true->y∈out
 le:i<=out.length
theorem CG.zero(p:aN)(q:Prop'):CG p q (gZ q [] (nK p q)) 0 :=
 ⟨PL List.nodup_nil,fun x hx=>by
  rcases rP.1 hx with h|⟨h,g⟩
  ·cases h
  ·exact .ini h g,fun x hx hl=>rP.2 (.inr ⟨hx,hl⟩),fun j hj=>by omega,Nat.zero_le _⟩
structure PN(p:aN)(q:Prop')(i:Nat)(x:Elem)(out:List Elem)(k:Nat):Prop where
 inv:CG p q out i
 lt:i<out.length
 at':out.getD i default=x
 kl:k<=p.rules.length
 cl: ∀ j,j<k-> ∀ y∈mX (p.rules.getD j default) x,oN q y=true->y∈out
theorem PN.zero{p:aN}{q:Prop'}{out:List Elem}{i:Nat}(h:CG p q out i)(hi:i<out.length):PN p q i (out.getD i default) out 0 :=
 ⟨h,hi,rfl,Nat.zero_le _,fun j hj=>by omega⟩
theorem PN.next{p:aN}{q:Prop'}{out:List Elem}{i k:Nat}{x:Elem}(h:PN p q i x out k)(hk:k<p.rules.length):PN p q i x (gZ q out (mX (p.rules.getD k default) x)) (k+1):=by
 have hle:=Yg (q:=q) (l:=mX (p.rules.getD k default) x) (out:=out)
 have hlt:=h.lt
 have hx:x∈out:=by rw[<- h.at']; exact je h.lt
 refine⟨⟨PL h.inv.nd,fun y hy=>?_,fun y hy hl=>rP.2 (.inl (h.inv.ini y hy hl)),fun j hj r hr y hy hl=>?_,by omega⟩,by omega,?_,hk,fun j hj y hy hl=>?_⟩
 ·rcases rP.1 hy with g|⟨g,gl⟩
  ·exact h.inv.rc y g
  ·exact .stp (h.inv.rc x hx) (je hk) g gl
 ·rw[La (by omega)] at hy
  exact rP.2 (.inl (h.inv.cl j hj r hr y hy hl))
 ·rw[La h.lt]; exact h.at'
 ·refine rP.2 ?_
  rcases Nat.lt_or_ge j k with g|g
  ·exact .inl (h.cl j g y hy hl)
  ·have:j=k:=by omega
   subst this
   exact .inr ⟨hy,hl⟩
theorem PN.all{p:aN}{q:Prop'}{out:List Elem}{i k:Nat}{x:Elem}(h:PN p q i x out k)(hk:p.rules.length<=k):CG p q out (i+1):=by
 refine⟨h.inv.nd,h.inv.rc,h.inv.ini,fun j hj r hr y hy hl=>?_,h.lt⟩
 rcases Nat.lt_or_ge j i with g|g
 ·exact h.inv.cl j g r hr y hy hl
 ·have:j=i:=by omega
  subst this
  rw[h.at'] at hy
  obtain⟨n,hn,e⟩:=List.mem_iff_getElem.1 hr
  have e2:p.rules.getD n default=r:=by rw[List.getD_eq_getElem?_getD,List.getElem?_eq_getElem hn]; exact e
  exact h.cl n (by omega) y (by rw[e2]; exact hy) hl
theorem CG.done{p:aN}{q:Prop'}{out:List Elem}{i:Nat}(h:CG p q out i)(hi:out.length<=i)(x:Elem):x∈out↔Uw p q x:=by
 refine⟨h.rc x,fun hx=>?_⟩
 induction hx with
 |ini hx hl=>exact h.ini _ hx hl
 |stp _ hr hy hl ih =>
  obtain⟨n,hn,e⟩:=List.mem_iff_getElem.1 ih
  refine h.cl n (by omega) _ hr _ ?_ hl
  rw[List.getD_eq_getElem?_getD,List.getElem?_eq_getElem hn,Option.getD_some,e]; exact hy
theorem CG.st{p:aN}{q:Prop'}(hc:Dw p=0){out:List Elem}{i:Nat}(h:CG p q out i): ∀ x∈out,Rt p x:=fun x hx=>(h.rc x hx).st hc
theorem IC{r:Rule}{a:Elem}(h:JX a):(mX r a).length<=729:=by
 have h1:=VU (lK r (mG a.value (iU a.counts)))
 have h2:=AQ (r:=r) (l:=mG a.value (iU a.counts))
 have h3:(mG a.value (iU a.counts)).length<=729:=MX (uq (Po a.counts) a.counts.length) (by rw[kQ]; exact h.len)
 unfold mX; omega
theorem PO{p:aN}{q:Prop'}(hst:p.states.length<=6):(nK p q).length<=729:=by
 unfold nK initK
 rw[List.length_map]
 have h1:=List.length_filter_le (Pq p q) (allM 2 p.states.length)
 rw[DV] at h1
 have h3:(2+1)^p.states.length<=3^6:=Nat.pow_le_pow_right (by decide) hst
 have h36:3^6=729:=by decide
 omega
theorem CG.len{p:aN}{q:Prop'}(hp:dP p)(hc:Dw p=0){out:List Elem}{i:Nat}(h:CG p q out i):out.length<=(BI p).length/\(BI p).length<=764411904:=VT hp hc h.nd (h.st hc)
theorem CG.small{p:aN}{q:Prop'}(hc:Dw p=0){out:List Elem}{i:Nat}(h:CG p q out i):eH out:=fun x hx=>by
 have:=(h.st hc x hx).abs.len; omega
noncomputable def zW(p:aN)(q:Prop'):List Elem:=sV ((BI p).filter fun x=>@decide (Uw p q x) (Classical.propDecidable _))
theorem IE{p:aN}{q:Prop'}(hc:Dw p=0){x:Elem}:x∈zW p q↔Uw p q x:=by
 unfold zW
 rw[rM,List.mem_filter]
 constructor
 ·rintro⟨_,h⟩; exact @of_decide_eq_true _ (Classical.propDecidable _) h
 ·intro h; exact⟨(h.st hc).univ,@decide_eq_true _ (Classical.propDecidable _) h⟩
theorem AV{p:aN}{q:Prop'}(hc:Dw p=0){l:List Elem}(hs:SS l)(h: ∀ x,x∈l↔Uw p q x):l=zW p q :=
 E9 hs (xO _) fun x=>by rw[h]; exact(IE hc).symm
theorem aaY{Z:Nat->Prop}{h:Hp}{k:Nat}:T.sub Z h (V.row k false (.elems [])).aG (V.row 0 true .nil).aG:=by
 simp only[V.aG]; exact⟨.inl rfl,.inr rfl,fun h=>by cases h⟩
abbrev aeY(p:aN):OV:=.box 27 11 (.dat (.jA p))
abbrev aeZ(p:aN)(q:Prop')(out:List Elem):List (Nat×OV):=[(0,aeY p),(1,ru q),(3,BG 4),(4,eP out)]
set_option maxHeartbeats 2000000 in
theorem S.pz(p:aN)(q:Prop')(hp:dP p)(hq:jd q)(hv:uo p q=0):aj Tryz.prog 87 [.dat (.jA p),.dat (.prop q)] (.row 3 false (.elems (zW p q))):=by
 have hc:=Na hv
 have hst:=(rF (mO (vg hc)).1).states
 have ag3:=PO (q:=q) hst
 have hz:=CG.zero p q
 have hrl:=hp.rules
 refine aj.of Bd.pz (by simp) rfl rfl ?_
 conv=>whnf
 refine ah.pure (S.lS p q hp hq (Io hv)) rfl ?_
 rw[adl]
 conv=>whnf
 have hsi:eH (nK p q):=fun x hx=>by have:=(Rt.ini hc hx).abs.len; omega
 refine ah.Ye (q:=q) (l:=nK p q) hq (by omega) hsi rfl rfl (by decide) rfl (fun h0=>?_) (fun x o hm=>?_)
 ·conv=>whnf
  refine aI.times 1 rfl ?_
  conv=>whnf
  refine Fork.mk (fun q=>absurd (q.symm.trans ((rfl:decide ((0:Int)<0)=false))).symm Bool.false_ne_true) (fun _=>?_)
  conv=>whnf
  refine ah.pure (S.RY) rfl ?_
  conv=>whnf
  rw[h0] at hz
  rw[<- AV hc (l:=[]) (by simp[SS]) (hz.done (Nat.le_refl _))]
  exact⟨aaY⟩
 ·rw[hm] at hz
  generalize ho:x::o=o1 at hz ⊢
  clear ho hm
  conv=>whnf
  refine aI.qg 5 [2,3,5,6] (fun s:List Elem×Nat=>[(7,.int s.2)]) (fun s=>aeZ p q s.1) (fun s=>CG p q s.1 s.2) (fun s=>(BI p).length-s.2) (o1,0) [0,1,3,10] rfl (by decide) (fun _=>rfl) hz ?_ ?_ ?_
  ·exact⟨⟨_,rfl,.eq rfl⟩,trivial⟩
  ·exact⟨okF rfl nofun rfl rfl rfl ⟨rfl,rfl⟩ rfl,okF rfl nofun rfl rfl rfl ⟨rfl,rfl⟩ rfl,⟨rfl,(fun _=>rfl),rfl,rfl,_,rfl,rfl,rfl,dQ.of_eq rfl⟩,okF rfl nofun rfl rfl rfl ⟨rfl,rfl⟩ rfl,trivial⟩
  conv=>whnf
  refine⟨⟨⟨_,rfl,.eq rfl⟩,⟨_,rfl,.eq rfl⟩,⟨_,rfl,.eq rfl⟩,⟨_,rfl,.eq rfl⟩,trivial⟩,rfl,?_⟩
  rintro⟨out,i⟩ hI
  obtain⟨hU1,hU2⟩:=hI.len hp hc
  have hle:=hI.le
  have hso:=hI.small hc
  simp only at hU1 hle hso ⊢
  conv=>whnf
  refine⟨fun h1=>?_,fun h1=>?_⟩
  ·have hi:i<out.length:=by simpa using h1
   conv=>whnf
   refine aI.qg 5 [2,3,5,6,7,23,24] (fun s:List Elem×Nat=>[(25,.int s.2)]) (fun s=>aeZ p q s.1) (fun s=>PN p q i (out.getD i default) s.1 s.2) (fun s=>p.rules.length-s.2) (out,0) [0,1,3,4] rfl (by decide) (fun _=>rfl) (.zero hI hi) ?_ ?_ ?_
   ·exact⟨⟨_,rfl,.eq rfl⟩,trivial⟩
   ·exact⟨okF rfl nofun rfl rfl rfl ⟨rfl,rfl⟩ rfl,okF rfl nofun rfl rfl rfl ⟨rfl,rfl⟩ rfl,⟨rfl,(fun _=>rfl),rfl,rfl,_,rfl,rfl,rfl,dQ.of_eq rfl⟩,okF rfl nofun rfl rfl rfl ⟨rfl,rfl⟩ rfl,trivial⟩
   conv=>whnf
   refine⟨⟨⟨_,rfl,.eq rfl⟩,⟨_,rfl,.eq rfl⟩,⟨_,rfl,.eq rfl⟩,⟨_,rfl,.eq rfl⟩,⟨_,rfl,.eq rfl⟩,⟨_,rfl,.eq rfl⟩,⟨_,rfl,.eq rfl⟩,trivial⟩,rfl,?_⟩
   rintro⟨o2,k⟩ hM
   obtain⟨hV1,_⟩:=hM.inv.len hp hc
   have hs2:=hM.inv.small hc
   have hlt:=hM.lt
   have hat:=hM.at'
   have hSt:=hM.inv.st hc _ (je (d:=default) hlt)
   simp only at hV1 hs2 hlt hat hSt ⊢
   conv=>whnf
   refine⟨fun h2=>?_,fun h2=>?_⟩
   ·have hk:k<p.rules.length:=by simpa using h2
    have hnx:=hM.next hk
    simp only at hnx
    conv=>whnf
    repeat(refine VC.mk (by simp only[Rw.rng] at *; first|omega|(simp_all; done)|(simp_all; omega)) ?_; conv=>whnf)
    have hpl:zN (o2.getD i default).counts.length (p.rules.getD k default):=by rw[hSt.len]; exact(wtR hc hk).place
    refine ah.pure (S.rJ (p.rules.getD k default) (o2.getD i default) (hp.rule k) hpl hSt.abs.ok hSt.abs.pos hSt.abs.len) rfl ?_
    have hpo:=IC (r:=p.rules.getD k default) hSt.abs
    have hsp:eH (mX (p.rules.getD k default) (o2.getD i default)):=fun y hy=>by rw[VW hy]; have:=hSt.abs.len; omega
    conv=>whnf
    refine ah.Yd (q:=q) (out:=o2) (l:=mX (p.rules.getD k default) (o2.getD i default)) hq (by omega) hs2 hsp rfl rfl rfl (by decide) (by decide) (by decide) rfl ?_
    conv=>whnf
    refine .mk (by simp only[okI] at *; first|omega|(simp_all; done)|(simp_all; omega)) ?_
    conv=>whnf
    refine⟨(gZ q o2 (mX (p.rules.getD k default) (o2.getD i default)),k+1),[0,1,3,17],by rw[hat]; exact hnx,by simp only; omega,⟨⟨_,rfl,.eq rfl⟩,trivial⟩,⟨⟨_,rfl,.eq rfl⟩,⟨_,rfl,.eq rfl⟩,⟨_,rfl,.eq rfl⟩,⟨_,rfl,.eq rfl⟩,⟨_,rfl,.eq rfl⟩,⟨_,rfl,.eq rfl⟩,⟨_,rfl,.eq rfl⟩,trivial⟩,okF rfl nofun rfl rfl rfl ⟨rfl,rfl⟩ rfl,okF rfl nofun rfl rfl rfl ⟨rfl,rfl⟩ rfl,⟨rfl,(fun _=>rfl),rfl,rfl,_,rfl,rfl,rfl,dQ.of_eq rfl⟩,okF rfl nofun rfl rfl rfl ⟨rfl,rfl⟩ rfl,trivial⟩
   ·have hk:p.rules.length<=k:=by simpa using h2
    conv=>whnf
    refine .mk (by simp only[okI] at *; first|omega|(simp_all; done)|(simp_all; omega)) ?_
    conv=>whnf
    refine⟨(o2,i+1),[0,1,3,4],hM.all hk,by simp only; omega,⟨⟨_,rfl,.eq rfl⟩,trivial⟩,⟨⟨_,rfl,.eq rfl⟩,⟨_,rfl,.eq rfl⟩,⟨_,rfl,.eq rfl⟩,⟨_,rfl,.eq rfl⟩,trivial⟩,okF rfl nofun rfl rfl rfl ⟨rfl,rfl⟩ rfl,okF rfl nofun rfl rfl rfl ⟨rfl,rfl⟩ rfl,⟨rfl,(fun _=>rfl),rfl,rfl,_,rfl,rfl,rfl,dQ.of_eq rfl⟩,okF rfl nofun rfl rfl rfl ⟨rfl,rfl⟩ rfl,trivial⟩
  ·have hi:out.length<=i:=by simpa using h1
   conv=>whnf
   refine ah.XR rfl rfl (by omega) hso ?_ (fun m=>?_)
   ·rw[AV hc (xO out) (fun x=>(rM out x).trans (hI.done hi x))]
    conv=>whnf
    exact ak.VG rfl
   ·rw[AV hc (xO out) (fun x=>(rM out x).trans (hI.done hi x))]
    conv=>whnf
    exact ak.adh rfl
set_option maxHeartbeats 1000000 in
theorem S.Nk(p:aN)(q:Prop')(hp:dP p)(hq:jd q)(hv:jI p q=0)(n:Nat):aO Tryz.prog 76 (V.bn [.dat (.jA p),.dat (.prop q)]) (Hz.ay []) n (fun t hp=>t= .own n/\hp=Hz.ay [(n,some (eP (nK p q)))]):=by
 have hst:=(rF (yS hv)).states
 have hpos:=(rF (yS hv)).pos
 have hsl:=KL hp hq
 refine oL.of (nx:=0) Bd.sW (by simp) ⟨_,_,rfl,rfl⟩ rfl rfl ?_
 conv=>whnf
 refine ah.pure (S.pF p q hp hq hv) rfl ?_
 conv=>whnf
 refine ah.pure (S.X0 2 p.states.length hpos hst (by decide)) rfl ?_
 conv=>whnf
 have hal:=DV (m:=2) (n:=p.states.length)
 have hal2:(2+1)^p.states.length<=3^6:=Nat.pow_le_pow_right (by decide) hst
 have h36:3^6=729:=by decide
 refine aI.nil 8 50 3 (by rfl) rfl rfl rfl ?_
 refine aI.qg 19 [5,7] (fun i:Nat=>[(9,.int i),(8,.own 18)]) (fun i=>[(18,eP (initK p q ((allM 2 p.states.length).take i)))]) (fun i=>i<=(allM 2 p.states.length).length) (fun i=>(allM 2 p.states.length).length-i) 0 [18] rfl (by decide) (fun _=>rfl) (Nat.zero_le _) ?_ ?_ ?_
 ·exact⟨⟨_,rfl,.eq rfl⟩,⟨_,rfl,.eq rfl⟩,trivial⟩
 ·exact⟨okF rfl nofun rfl rfl rfl ⟨rfl,rfl⟩ rfl,trivial⟩
 conv=>whnf
 refine⟨⟨⟨_,rfl,.eq rfl⟩,⟨_,rfl,.eq rfl⟩,trivial⟩,rfl,?_⟩
 rintro i hi
 have hkl:=VK (p:=p) (q:=q) (l:=(allM 2 p.states.length).take i)
 rw[List.length_take] at hkl
 conv=>whnf
 refine⟨fun h1=>?_,fun h1=>?_⟩
 ·have hi':i<(allM 2 p.states.length).length:=by simpa using h1
  have hcl:((allM 2 p.states.length).getD i []).length=p.states.length:=(zT.1 (je hi')).1
  have hstep:=RQ (p:=p) (q:=q) hi'
  conv=>whnf
  refine .mk (by simp only[Rw.rng] at *; first|omega|(simp_all; done)|(simp_all; omega)) ?_
  conv=>whnf
  refine ah.pure (S.pY ⟨0,(allM 2 p.states.length).getD i []⟩ (by show((allM 2 p.states.length).getD i []).length<_; omega)) rfl ?_
  conv=>whnf
  repeat(refine VC.mk (by first|exact id|exact fun h=>⟨h,h⟩|(intro h; (repeat' apply And.intro)<;>first|exact h|omega|(simp only[Rw.pq]; omega)|(simp only[Rw.rng]; omega))) ?_; conv=>whnf)
  refine ah.gG (fun _=>S.lT (mQ p q) ((allM 2 p.states.length).getD i []) false false (by omega) (by omega)) rfl ?_
  conv=>whnf
  refine VC.mk id ?_
  conv=>whnf
  refine⟨fun h2=>?_,fun h2=>?_⟩
  ·replace h2:Pq p q ((allM 2 p.states.length).getD i [])=true:=h2
   rw[if_pos h2] at hstep
   conv=>whnf
   refine ah.pure (S.oM ⟨0,(allM 2 p.states.length).getD i []⟩ (by show((allM 2 p.states.length).getD i []).length<_; omega)) rfl ?_
   conv=>whnf
   repeat(refine VC.mk (by first|(show((initK p q ((allM 2 p.states.length).take i)).length+(0+1))*32<=140737488355328/\(initK p q ((allM 2 p.states.length).take i)).length+(0+1)<=1152921504606846976; omega)|(simp only[okI] at *; first|omega|(simp_all; done)|(simp_all; omega))) ?_; conv=>whnf)
   refine⟨i+1,[45],by omega,by omega,⟨⟨_,rfl,.eq rfl⟩,⟨_,rfl,.eq rfl⟩,trivial⟩,⟨⟨_,rfl,.eq rfl⟩,⟨_,rfl,.eq rfl⟩,trivial⟩,okF rfl nofun rfl rfl rfl ⟨rfl,rfl⟩ ?_,trivial⟩
   rw[hstep]
   show List.map dZ (initK p q ((allM 2 p.states.length).take i)++[⟨0,(allM 2 p.states.length).getD i []⟩])++[]=List.map dZ (initK p q ((allM 2 p.states.length).take i))++[dZ ⟨0,(allM 2 p.states.length).getD i []⟩]
   simp
  ·replace h2:Pq p q ((allM 2 p.states.length).getD i [])=false:=h2
   rw[if_neg (by rw[h2]; decide),List.append_nil] at hstep
   conv=>whnf
   refine .mk (by simp only[okI] at *; first|omega|(simp_all; done)|(simp_all; omega)) ?_
   conv=>whnf
   refine⟨i+1,[18],by omega,by omega,⟨⟨_,rfl,.eq rfl⟩,⟨_,rfl,.eq rfl⟩,trivial⟩,⟨⟨_,rfl,.eq rfl⟩,⟨_,rfl,.eq rfl⟩,trivial⟩,okF rfl nofun rfl rfl rfl ⟨rfl,rfl⟩ (by rw[hstep]),trivial⟩
 ·have hi':(allM 2 p.states.length).length<=i:=by simpa using h1
  rw[List.take_of_length_le hi']
  conv=>whnf
  exact nC.one (c:=n) (j:=18) (o:=eP (nK p q)) (t:=.own n) rfl rfl rfl nofun (.inr rfl) rfl (.eq rfl) ⟨rfl,rfl⟩
theorem S.Nl(p:aN)(q:Prop')(hp:dP p)(hq:jd q)(hv:jI p q=0):qY Tryz.prog 76 (V.bn [.dat (.jA p),.dat (.prop q)]) (fun n=>.own n) (some ⟨50,3,(Rw.elems (nK p q)).bn⟩):=by
 refine⟨rfl,fun n=>rfl,fun ob h=>?_,fun ob h=>?_,fun n=>?_⟩
 ·cases h; exact rG _
 ·cases h; exact show(3:Nat)≠dI by decide
 ·have:=S.Nk p q hp hq hv n
  have e1:Hz.ay [(n,some (eP (nK p q)))]=fU no n (some ⟨50,3,(Rw.elems (nK p q)).bn⟩):=by
   rw[bQ]; simp[fU,OV.aF,V.bn]; rfl
  rw[e1] at this
  exact this
theorem S.pG(q:Prop')(a:Elem)(hq:jd q)(ha:a.counts.length<2^40):aj Tryz.prog 130 [.dat (.prop q),.dat (.elem a)] (.bool (oN q a)):=by
 have hg:=hq.goal
 refine aj.of Bd.pG (by simp) rfl rfl ?_
 conv=>whnf
 repeat(refine VC.mk (by first|exact id|exact fun h=>⟨h,h⟩) ?_; conv=>whnf)
 refine ah.gG (fun _=>S.lT q.goal a.counts false false (by omega) (by omega)) rfl ?_
 conv=>whnf
 repeat(refine VC.mk (by first|exact id|(intro h; rw[h]; rfl)) ?_; conv=>whnf)
 exact ak.bool (by rw[oN,VQ])
theorem Yh{l:List Elem}{e:Elem}(h:rQ l e=true):e∈l:=by
 unfold rQ at h
 rw[Bool.and_eq_true] at h
 have h1:=of_decide_eq_true h.1
 have h2:=of_decide_eq_true h.2
 rw[ku] at h2
 rw[<- h2]
 have:=GX (l:=l) (e:=e) l.length
 exact je (by omega)
theorem Lc{l:List Elem}{e:Elem}(h:rQ l e=false):(nD l e).length=l.length+1:=by
 have:=GX (l:=l) (e:=e) l.length
 rw[nD,if_neg (by rw[h]; decide),List.length_append,List.length_cons,List.length_take,List.length_drop]; omega
theorem PS{l:List Elem}(h:SS l):l.Nodup:=by
 unfold SS at h
 refine h.imp fun {a b} hab e=>?_
 have h0:iP a b=0:=by rw[ku]; exact e
 omega
theorem IG{p:aN}{l:List Elem}(hc:Dw p=0)(hn:l.Nodup)(hs: ∀ x∈l,Rt p x):l.length<=2187:=by
 have hv:=rF (mO (vg hc)).1
 have h1:=PK hn fun x hx=>(hs x hx).univ
 rw[KY] at h1
 have h3:3^p.states.length<=3^6:=Nat.pow_le_pow_right (by decide) hv.states
 have hva:=hv.values
 have h2:max 1 p.values.length<=3:=by omega
 exact Nat.le_trans h1 (Nat.le_trans (Nat.mul_le_mul h2 h3) (by decide))
def zX(p:aN)(x:Elem)(k:Nat):List Elem:=(p.rules.take k).flatMap fun r=>mX r x
theorem VX{p:aN}{x:Elem}{k:Nat}(hk:k<p.rules.length):zX p x (k+1)=zX p x k++mX (p.rules.getD k default) x:=by
 unfold zX
 have ht:p.rules.take (k+1)=p.rules.take k++[p.rules.getD k default]:=by rw[List.take_add_one]; simp[hk]
 rw[ht,List.flatMap_append]; simp
theorem PU{p:aN}{x:Elem}{k:Nat}(hc:Dw p=0)(h:JX x):(zX p x k).length<=5832:=by
 have hv:=(rF (mO (vg hc)).1).adp
 have h1:=DK (f:=fun r=>mX r x) (k:=729) (l:=p.rules.take k) fun r _=>IC h
 rw[List.length_take] at h1
 unfold zX
 have h2:min k p.rules.length<=8:=by omega
 exact Nat.le_trans h1 (Nat.le_trans (Nat.mul_le_mul_right 729 h2) (by decide))
theorem PV{p:aN}{x y:Elem}:y∈zX p x p.rules.length↔ ∃ r∈p.rules,y∈mX r x:=by
 unfold zX
 rw[List.take_length,List.mem_flatMap]
structure zY(p:aN)(q:Prop')(T O:List Elem)(i:Nat):Prop where
 ss:SS O
 rc: ∀ x∈O,Uw p q x
 gen: ∀ x∈T,x∈nK p q\/ ∃ y r,Uw p q y/\r∈p.rules/\x∈mX r y
 ini: ∀ x∈nK p q,x∈T
 dn: ∀ j,j<i->oN q (T.getD j default)=true->T.getD j default∈O
 cl: ∀ x∈O,∀ r∈p.rules,∀ y∈mX r x,y∈T
 le:i<=T.length
 tl:T.length<=729+O.length*5832
theorem zY.zero{p:aN}{q:Prop'}(hc:Dw p=0):zY p q (nK p q) [] 0 :=
 ⟨by simp[SS],(fun x hx=>by cases hx),(fun x hx=>.inl hx),(fun x hx=>hx),(fun j hj=>by omega),(fun x hx=>by cases hx),Nat.zero_le _,by
  have:=PO (p:=p) (q:=q) (rF (mO (vg hc)).1).states
  simpa using this⟩
theorem zY.reach{p:aN}{q:Prop'}{T O:List Elem}{i:Nat}(h:zY p q T O i){x:Elem}(hx:x∈T)(hl:oN q x=true):Uw p q x:=by
 rcases h.gen x hx with g|⟨y,r,g1,g2,g3⟩
 ·exact .ini g hl
 ·exact .stp g1 g2 g3 hl
theorem zY.st{p:aN}{q:Prop'}{T O:List Elem}{i:Nat}(hc:Dw p=0)(h:zY p q T O i){x:Elem}(hx:x∈T):Rt p x:=by
 rcases h.gen x hx with g|⟨y,r,g1,g2,g3⟩
 ·exact .ini hc g
 ·exact(g1.st hc).post hc g2 g3
theorem zY.skip{p:aN}{q:Prop'}{T O:List Elem}{i:Nat}(h:zY p q T O i)(hi:i<T.length)(hs:oN q (T.getD i default)=true->T.getD i default∈O):zY p q T O (i+1) :=
 ⟨h.ss,h.rc,h.gen,h.ini,fun j hj hl=>by
  rcases Nat.lt_or_ge j i with g|g
  ·exact h.dn j g hl
  ·have:j=i:=by omega
   subst this
   exact hs hl,h.cl,hi,h.tl⟩
theorem zY.next{p:aN}{q:Prop'}{T O:List Elem}{i:Nat}(hc:Dw p=0)(h:zY p q T O i)(hi:i<T.length)(hl:oN q (T.getD i default)=true)(hf:rQ O (T.getD i default)=false):zY p q (T++zX p (T.getD i default) p.rules.length) (nD O (T.getD i default)) (i+1):=by
 have hm:T.getD i default∈T:=je hi
 have hR:=h.reach hm hl
 have hS:=h.st hc hm
 obtain⟨s1,s2⟩:=II (e:=T.getD i default) h.ss
 have hg: ∀ j,j<T.length->(T++zX p (T.getD i default) p.rules.length).getD j default=T.getD j default:=fun j hj=>by
  rw[List.getD_eq_getElem?_getD,List.getElem?_append_left hj,<- List.getD_eq_getElem?_getD]
 refine⟨s1,fun x hx=>?_,fun x hx=>?_,fun x hx=>List.mem_append_left _ (h.ini x hx),fun j hj hlk=>?_,fun x hx r hr y hy=>?_,?_,?_⟩
 ·rcases(s2 x).1 hx with rfl|g
  ·exact hR
  ·exact h.rc x g
 ·rcases List.mem_append.1 hx with g|g
  ·exact h.gen x g
  ·obtain⟨r,g1,g2⟩:=PV.1 g
   exact .inr ⟨_,r,hR,g1,g2⟩
 ·rw[hg j (by omega)] at hlk ⊢
  rcases Nat.lt_or_ge j i with g|g
  ·exact(s2 _).2 (.inr (h.dn j g hlk))
  ·have:j=i:=by omega
   subst this
   exact(s2 _).2 (.inl rfl)
 ·rcases(s2 x).1 hx with rfl|g
  ·exact List.mem_append_right _ (PV.2 ⟨r,hr,hy⟩)
  ·exact List.mem_append_left _ (h.cl x g r hr y hy)
 ·rw[List.length_append]; omega
 ·have h1:=h.tl
  have h2:=PU (k:=p.rules.length) hc hS.abs
  rw[List.length_append,Lc hf]; omega
theorem zY.done{p:aN}{q:Prop'}{T O:List Elem}{i:Nat}(h:zY p q T O i)(hi:T.length<=i)(x:Elem):x∈O↔Uw p q x:=by
 have key: ∀ x,x∈T->oN q x=true->x∈O:=fun x hx hl=>by
  obtain⟨n,hn,e⟩:=List.mem_iff_getElem.1 hx
  have e2:T.getD n default=x:=by rw[List.getD_eq_getElem?_getD,List.getElem?_eq_getElem hn]; exact e
  rw[<- e2] at hl ⊢
  exact h.dn n (by omega) hl
 refine⟨h.rc x,fun hx=>?_⟩
 induction hx with
 |ini hx hl=>exact key _ (h.ini _ hx) hl
 |stp _ hr hy hl ih=>exact key _ (h.cl _ ih _ hr _ hy) hl
theorem zY.len{p:aN}{q:Prop'}{T O:List Elem}{i:Nat}(hc:Dw p=0)(h:zY p q T O i):O.length<=2187:=IG hc (PS h.ss) fun x hx=>(h.rc x hx).st hc
abbrev objT(p:aN)(q:Prop')(T O:List Elem):List (Nat×OV):=[(0,aeY p),(1,ru q),(2,eP T),(3,eP O)]
set_option maxHeartbeats 2000000 in
theorem S.rU(p:aN)(q:Prop')(hp:dP p)(hq:jd q)(hv:uo p q=0):aj Tryz.prog 88 [.dat (.jA p),.dat (.prop q)] (.row 3 false (.elems (zW p q))):=by
 have hc:=Na hv
 have hrl:=hp.rules
 refine aj.of Bd.rU (by simp) rfl rfl ?_
 conv=>whnf
 refine ah.mkRow (r:=.elems (nK p q)) (S.Nl p q hp hq (Io hv)) ?_
 conv=>whnf
 refine aI.nil 6 50 3 (by rfl) rfl rfl rfl ?_
 refine aI.qg 4 [2,3] (fun s:(List Elem×List Elem)×Nat=>[(7,.int s.2),(5,.own 2),(6,.own 3)]) (fun s=>objT p q s.1.1 s.1.2) (fun s=>zY p q s.1.1 s.1.2 s.2) (fun s=>(2187-s.1.2.length)*6000+(s.1.1.length-s.2)) ((nK p q,[]),0) [0,1,5,9] rfl (by decide) (fun _=>rfl) (.zero hc) ?_ ?_ ?_
 ·exact⟨⟨_,rfl,.eq rfl⟩,⟨_,rfl,.eq rfl⟩,⟨_,rfl,.eq rfl⟩,trivial⟩
 ·exact⟨okF rfl nofun rfl rfl rfl ⟨rfl,rfl⟩ rfl,okF rfl nofun rfl rfl rfl ⟨rfl,rfl⟩ rfl,okF rfl nofun rfl rfl rfl ⟨rfl,rfl⟩ rfl,okF rfl nofun rfl rfl rfl ⟨rfl,rfl⟩ rfl,trivial⟩
 conv=>whnf
 refine⟨⟨⟨_,rfl,.eq rfl⟩,⟨_,rfl,.eq rfl⟩,trivial⟩,rfl,?_⟩
 rintro⟨⟨T,O⟩,i⟩ hI
 have hO:=hI.len hc
 have hT:=hI.tl
 have hle:=hI.le
 simp only at hO hT hle ⊢
 conv=>whnf
 refine⟨fun h1=>?_,fun h1=>?_⟩
 ·have hi:i<T.length:=by simpa using h1
  have hm:T.getD i default∈T:=je hi
  have hS:=hI.st hc hm
  have hsl:=hS.abs.len
  conv=>whnf
  repeat(refine VC.mk (by simp only[Rw.rng] at *; first|omega|(simp_all; done)|(simp_all; omega)) ?_; conv=>whnf)
  refine ah.pure (S.pG q (T.getD i default) hq (by omega)) rfl ?_
  conv=>whnf
  refine⟨fun h2=>?_,fun h2=>?_⟩
  ·have hsO:eH O:=fun x hx=>by have:=((hI.rc x hx).st hc).abs.len; omega
   conv=>whnf
   repeat(refine VC.mk (by simp only[Rw.rng] at *; first|omega|(simp_all; done)|(simp_all; omega)) ?_; conv=>whnf)
   refine ah.insert (i:=3) (l:=O) (e:=T.getD i default) rfl rfl (by omega) hsO (by omega) (fun hf=>?_) (fun hf=>?_)
   ·conv=>whnf
    refine⟨fun h3=>?_,fun h3=>?_⟩
    ·conv=>whnf
     refine .mk (by simp only[okI] at *; first|omega|(simp_all; done)|(simp_all; omega)) ?_
     conv=>whnf
     refine⟨((T,O),i+1),[0,1,2,3],hI.skip hi (fun _=>Yh hf),by simp only; omega,⟨⟨_,rfl,.eq rfl⟩,⟨_,rfl,.eq rfl⟩,⟨_,rfl,.eq rfl⟩,trivial⟩,⟨⟨_,rfl,.eq rfl⟩,⟨_,rfl,.eq rfl⟩,trivial⟩,okF rfl nofun rfl rfl rfl ⟨rfl,rfl⟩ rfl,okF rfl nofun rfl rfl rfl ⟨rfl,rfl⟩ rfl,okF rfl nofun rfl rfl rfl ⟨rfl,rfl⟩ rfl,okF rfl nofun rfl rfl rfl ⟨rfl,rfl⟩ rfl,trivial⟩
    ·exact absurd h3 (by simp)
   ·have hnext:=hI.next hc hi h2 hf
    have hin:=Lc hf
    have hO2:=hnext.len hc
    simp only at hO2 hnext
    conv=>whnf
    refine⟨fun h3=>?_,fun h3=>?_⟩
    ·exfalso
     replace h3:decide (((nD O (T.getD i default)).length:Int)=O.length)=true:=h3
     rw[hin] at h3
     have:=of_decide_eq_true h3
     omega
    ·conv=>whnf
     refine aI.qg 4 [2,3,7] (fun k:Nat=>[(9,.int k),(5,.own 2),(6,.own 3)]) (fun k=>objT p q (T++zX p (T.getD i default) k) (nD O (T.getD i default))) (fun k=>k<=p.rules.length) (fun k=>p.rules.length-k) 0 [0,1,2,22] rfl (by decide) (fun _=>rfl) (Nat.zero_le _) ?_ ?_ ?_
     ·exact⟨⟨_,rfl,.eq rfl⟩,⟨_,rfl,.eq rfl⟩,⟨_,rfl,.eq rfl⟩,trivial⟩
     ·exact⟨okF rfl nofun rfl rfl rfl ⟨rfl,rfl⟩ rfl,okF rfl nofun rfl rfl rfl ⟨rfl,rfl⟩ rfl,okF rfl nofun rfl rfl rfl ⟨rfl,rfl⟩ (by rw[show zX p (T.getD i default) 0=[] from rfl,List.append_nil]),okF rfl nofun rfl rfl rfl ⟨rfl,rfl⟩ rfl,trivial⟩
     conv=>whnf
     refine⟨⟨⟨_,rfl,.eq rfl⟩,⟨_,rfl,.eq rfl⟩,⟨_,rfl,.eq rfl⟩,trivial⟩,rfl,?_⟩
     rintro k hk
     have hat:(T++zX p (T.getD i default) k).getD i default=T.getD i default:=by
      rw[List.getD_eq_getElem?_getD,List.getElem?_append_left hi,<- List.getD_eq_getElem?_getD]
     have hnl:=PU (k:=k) hc hS.abs
     have hal:(T++zX p (T.getD i default) k).length=T.length+(zX p (T.getD i default) k).length:=List.length_append
     conv=>whnf
     refine⟨fun h4=>?_,fun h4=>?_⟩
     ·have hk':k<p.rules.length:=by simpa using h4
      have hstep:=VX (x:=T.getD i default) hk'
      conv=>whnf
      repeat(refine VC.mk (by simp only[Rw.rng]; omega) ?_; conv=>whnf)
      have hpl:zN ((T++zX p (T.getD i default) k).getD i default).counts.length (p.rules.getD (k:Int).toNat default):=by rw[hat,hS.len]; exact(wtR hc hk').place
      refine ah.pure (S.vC p k ((T++zX p (T.getD i default) k).getD i default) hp hpl (by omega) (by rw[hat]; exact hS.abs)) rfl ?_
      rw[hat]
      have hpo:=IC (r:=p.rules.getD (k:Int).toNat default) hS.abs
      conv=>whnf
      repeat(refine VC.mk (by first|(simp only[nI,oz,Rw.len,List.length_append]; omega)|(simp only[okI] at *; first|omega|(simp_all; done)|(simp_all; omega))) ?_; conv=>whnf)
      refine⟨k+1,[0,1,17,3],hk',by omega,⟨⟨_,rfl,.eq rfl⟩,⟨_,rfl,.eq rfl⟩,⟨_,rfl,.eq rfl⟩,trivial⟩,⟨⟨_,rfl,.eq rfl⟩,⟨_,rfl,.eq rfl⟩,⟨_,rfl,.eq rfl⟩,trivial⟩,okF rfl nofun rfl rfl rfl ⟨rfl,rfl⟩ rfl,okF rfl nofun rfl rfl rfl ⟨rfl,rfl⟩ rfl,okF rfl nofun rfl rfl rfl ⟨rfl,rfl⟩ ?_,okF rfl nofun rfl rfl rfl ⟨rfl,rfl⟩ rfl,trivial⟩
      rw[hstep,<- List.append_assoc]; rfl
     ·have hk2: ¬ k<p.rules.length:=by simpa using h4
      have hk':k=p.rules.length:=by omega
      subst hk'
      conv=>whnf
      refine .mk (by simp only[okI] at *; first|omega|(simp_all; done)|(simp_all; omega)) ?_
      conv=>whnf
      refine⟨((T++zX p (T.getD i default) p.rules.length,nD O (T.getD i default)),i+1),[0,1,2,3],hnext,by simp only; omega,⟨⟨_,rfl,.eq rfl⟩,⟨_,rfl,.eq rfl⟩,⟨_,rfl,.eq rfl⟩,trivial⟩,⟨⟨_,rfl,.eq rfl⟩,⟨_,rfl,.eq rfl⟩,trivial⟩,okF rfl nofun rfl rfl rfl ⟨rfl,rfl⟩ rfl,okF rfl nofun rfl rfl rfl ⟨rfl,rfl⟩ rfl,okF rfl nofun rfl rfl rfl ⟨rfl,rfl⟩ rfl,okF rfl nofun rfl rfl rfl ⟨rfl,rfl⟩ rfl,trivial⟩
  ·conv=>whnf
   refine⟨fun h3=>?_,fun h3=>?_⟩
   ·conv=>whnf
    refine .mk (by simp only[okI] at *; first|omega|(simp_all; done)|(simp_all; omega)) ?_
    conv=>whnf
    refine⟨((T,O),i+1),[0,1,2,3],hI.skip hi (fun h=>absurd (h.symm.trans h2) (by decide)),by simp only; omega,⟨⟨_,rfl,.eq rfl⟩,⟨_,rfl,.eq rfl⟩,⟨_,rfl,.eq rfl⟩,trivial⟩,⟨⟨_,rfl,.eq rfl⟩,⟨_,rfl,.eq rfl⟩,trivial⟩,okF rfl nofun rfl rfl rfl ⟨rfl,rfl⟩ rfl,okF rfl nofun rfl rfl rfl ⟨rfl,rfl⟩ rfl,okF rfl nofun rfl rfl rfl ⟨rfl,rfl⟩ rfl,okF rfl nofun rfl rfl rfl ⟨rfl,rfl⟩ rfl,trivial⟩
   ·exact absurd h3 (by simp)
 ·have hi:T.length<=i:=by simpa using h1
  rw[<- AV hc hI.ss (hI.done hi)]
  conv=>whnf
  exact ak.VG rfl
def Yi(p:aN)(q:Prop')(a:Elem):Int:=bif OH p q 2 !=0 then OH p q 2 else H7 p a
def rdB(p:aN)(q:Prop')(a:Elem):Bool:=(Yi p q a==0)&&VQ q a
theorem adq{p:aN}{q:Prop'}{k:Int}(h:OH p q k=0):uo p q=0:=by
 unfold OH at h
 cases hb:(uo p q==0)&&(q.kind !=k) with
 |true=>rw[hb] at h; exact absurd (show(7:Int)=0 from h) (by decide)
 |false=>rw[hb] at h; exact h
theorem S.lU(p:aN)(q:Prop')(a:Elem)(hp:dP p)(hq:jd q)(ha:a.counts.length<2^30):aj Tryz.prog 34 [.dat (.jA p),.dat (.prop q),.dat (.elem a)] (.fJ [.bool (rdB p q a),.int (Yi p q a)]):=by
 refine aj.of Bd.lU (by simp) rfl rfl ?_
 conv=>whnf
 refine ah.pure (S.jR p q 2 hp hq) rfl ?_
 conv=>whnf
 refine⟨fun h1=>?_,fun h1=>?_⟩
 ·conv=>whnf
  have e:Yi p q a=OH p q 2:=by unfold Yi; rw[show(OH p q 2 !=0)=true from h1]; rfl
  rw[rdB,e,show(OH p q 2==0)=false by simpa using h1]
  exact ak.eqv rfl
 ·have h0:OH p q 2=0:=by simpa using h1
  have e:Yi p q a=H7 p a:=by unfold Yi; rw[h0]; rfl
  conv=>whnf
  refine ah.pure (S.jB p a hp ha) rfl ?_
  conv=>whnf
  refine⟨fun h2=>?_,fun h2=>?_⟩
  ·conv=>whnf
   rw[rdB,e,show(H7 p a==0)=false by simpa using h2]
   exact ak.eqv rfl
  ·have h3:H7 p a=0:=by simpa using h2
   conv=>whnf
   refine ah.pure (S.jl q a hq (by omega)) rfl ?_
   conv=>whnf
   rw[rdB,e,h3]
   exact ak.eqv rfl
theorem S.nM(p:aN)(q:Prop')(a:Elem)(hp:dP p)(hq:jd q)(ha:a.counts.length<2^30):aj Tryz.prog 35 [.dat (.jA p),.dat (.prop q),.dat (.elem a)] (.fJ [.bool (rdB p q a),.int (Yi p q a)]):=by
 have hg:=hq.goal
 refine aj.of Bd.nM (by simp) rfl rfl ?_
 conv=>whnf
 refine ah.pure (S.uY p q 2 hp hq) rfl ?_
 conv=>whnf
 refine⟨fun h1=>?_,fun h1=>?_⟩
 ·conv=>whnf
  have e:Yi p q a=OH p q 2:=by unfold Yi; rw[show(OH p q 2 !=0)=true from h1]; rfl
  rw[rdB,e,show(OH p q 2==0)=false by simpa using h1]
  exact ak.eqv rfl
 ·have h0:OH p q 2=0:=by simpa using h1
  have e:Yi p q a=H7 p a:=by unfold Yi; rw[h0]; rfl
  have hv:=aaH (Na (adq h0)) a
  conv=>whnf
  refine ah.pure (S.lQ p a hp ha) rfl ?_
  conv=>whnf
  refine⟨fun h2=>?_,fun h2=>?_⟩
  ·replace h2:OQ p a=false:=by simpa using h2
   rw[h2] at hv
   conv=>whnf
   rw[rdB,e,hv]
   exact ak.eqv rfl
  ·replace h2:OQ p a=true:=by simpa using h2
   rw[h2] at hv
   conv=>whnf
   refine ah.pure (S.lT q.goal a.counts false false (by omega) (by omega)) rfl ?_
   conv=>whnf
   rw[rdB,e,hv]
   exact ak.eqv rfl
noncomputable def rcL(p:aN)(q:Prop'):List Elem:=@ite _ (uo p q=0) (Classical.propDecidable _) (zW p q) []
theorem RZ{p:aN}{q:Prop'}(h:uo p q≠0):rcL p q=[]:=if_neg h
theorem Np{p:aN}{q:Prop'}(h:uo p q=0):rcL p q=zW p q:=if_pos h
theorem S.pI(p:aN)(q:Prop')(hp:dP p)(hq:jd q):aj Tryz.prog 36 [.dat (.jA p),.dat (.prop q)] (.fJ [.row 3 false (.elems (rcL p q)),.int (uo p q)]):=by
 refine aj.of Bd.pI (by simp) rfl rfl ?_
 conv=>whnf
 refine ah.pure (S.nH p q hp hq) rfl ?_
 conv=>whnf
 refine⟨fun h1=>?_,fun h1=>?_⟩
 ·conv=>whnf
  rw[RZ (by simpa using h1)]
  exact ak.acH
 ·have h0:uo p q=0:=by simpa using h1
  conv=>whnf
  refine ah.pure (S.pz p q hp hq h0) rfl ?_
  rw[h0,Np h0]
  conv=>whnf
  exact ak.eqv rfl
theorem S.rV(p:aN)(q:Prop')(hp:dP p)(hq:jd q):aj Tryz.prog 37 [.dat (.jA p),.dat (.prop q)] (.fJ [.row 3 false (.elems (rcL p q)),.int (uo p q)]):=by
 refine aj.of Bd.rV (by simp) rfl rfl ?_
 conv=>whnf
 refine ah.pure (S.pX p q hp hq) rfl ?_
 conv=>whnf
 refine⟨fun h1=>?_,fun h1=>?_⟩
 ·conv=>whnf
  rw[RZ (by simpa using h1)]
  exact ak.acH
 ·have h0:uo p q=0:=by simpa using h1
  conv=>whnf
  refine ah.pure (S.rU p q hp hq h0) rfl ?_
  rw[h0,Np h0]
  conv=>whnf
  exact ak.eqv rfl
theorem adr(p:aN)(q:Prop'):(rcL p q).length<=2187/\ ∀ x∈rcL p q,Rt p x:=by
 by_cases h:uo p q=0
 ·have hc:=Na h
  rw[Np h]
  have hs: ∀ x∈zW p q,Rt p x:=fun x hx=>((IE hc).1 hx).st hc
  exact⟨IG hc (PS (xO _)) hs,hs⟩
 ·rw[RZ h]; exact⟨by decide,fun x hx=>by cases hx⟩
end Go.Proofs.YtkomllaebngbfaaGreatDoor
