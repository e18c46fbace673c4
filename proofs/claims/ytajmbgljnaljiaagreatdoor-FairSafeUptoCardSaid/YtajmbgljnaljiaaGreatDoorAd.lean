/-
 What is met is what can be reached: plain laws. No condition.
-/
import Derived.Test.YtajmbgljnaljiaaGreatDoorAc
import Derived.Test.YtajmbgljnaljiaaGreatDoorBc
namespace Go.Proofs.YtajmbgljnaljiaaGreatDoor
open Go.Ab Go.Proofs
set_option maxRecDepth 100000
theorem adt{a:Elem}{l:List Elem}:Um a l=true↔a∈l:=by
 unfold Um
 rw[List.any_eq_true]
 constructor
 ·rintro⟨b,hb,h⟩
  rw[beq_iff_eq,kX] at h
  rw[h]; exact hb
 ·intro h; exact⟨a,h,by rw[beq_iff_eq,kX]⟩
theorem Pz{q:Prop'}: ∀ {l out:List Elem},out.Nodup->(gW q out l).Nodup:=by
 intro l
 induction l with
 |nil=>intro out h; exact h
 |cons a l ih =>
  intro out h
  refine ih (out:=oh q out a) ?_
  unfold oh
  split
  ·rename_i hk
   rw[Bool.and_eq_true,Bool.not_eq_true'] at hk
   refine List.nodup_append.2 ⟨h,List.nodup_cons.2 ⟨nofun,List.nodup_nil⟩,fun x hx y hy=>?_⟩
   rw[List.mem_singleton] at hy
   subst hy
   rintro rfl
   rw[adt.2 hx] at hk
   exact absurd hk.1 (by decide)
  ·exact h
theorem Lc{q:Prop'}: ∀ {l out:List Elem},∃ t,gW q out l=out++t:=by
 intro l
 induction l with
 |nil=>intro out; exact⟨[],by simp[gW]⟩
 |cons a l ih =>
  intro out
  obtain⟨t,ht⟩:=ih (out:=oh q out a)
  have h1: ∃ u,oh q out a=out++u:=by
   unfold oh
   split
   ·exact⟨[a],rfl⟩
   ·exact⟨[],by simp⟩
  obtain⟨u,hu⟩:=h1
  refine⟨u++t,?_⟩
  show gW q (oh q out a) l=_
  rw[ht,hu,List.append_assoc]
theorem Ld{q:Prop'}{l out:List Elem}{i:Nat}(hi:i<out.length):(gW q out l).getD i default=out.getD i default:=by
 obtain⟨t,ht⟩:=Lc (q:=q) (l:=l) (out:=out)
 rw[ht,List.getD_eq_getElem?_getD,List.getElem?_append_left hi,List.getD_eq_getElem?_getD]
theorem Yi{q:Prop'}{l out:List Elem}:out.length<=(gW q out l).length:=by
 obtain⟨t,ht⟩:=Lc (q:=q) (l:=l) (out:=out)
 rw[ht,List.length_append]; omega
structure CB(p:aO)(q:Prop')(out:List Elem)(i:Nat):Prop where
 nd:out.Nodup
 rc: ∀ x∈out,Uo p q x
 ini: ∀ x∈nJ p q,oK q x=true->x∈out
 cl: ∀ j,j<i-> ∀ r∈p.rules,∀ y∈mV r (out.getD j default),oK q y=true->y∈out
 le:i<=out.length
theorem CB.zero(p:aO)(q:Prop'):CB p q (gW q [] (nJ p q)) 0 :=
 ⟨Pz List.nodup_nil,fun x hx=>by
  rcases rM.1 hx with h|⟨h,g⟩
  ·cases h
  ·exact .ini h g,fun x hx hl=>rM.2 (.inr ⟨hx,hl⟩),fun j hj=>by omega,Nat.zero_le _⟩
structure PD(p:aO)(q:Prop')(i:Nat)(x:Elem)(out:List Elem)(k:Nat):Prop where
 inv:CB p q out i
 lt:i<out.length
 at':out.getD i default=x
 kl:k<=p.rules.length
 cl: ∀ j,j<k-> ∀ y∈mV (p.rules.getD j default) x,oK q y=true->y∈out
theorem PD.zero{p:aO}{q:Prop'}{out:List Elem}{i:Nat}(h:CB p q out i)(hi:i<out.length):PD p q i (out.getD i default) out 0 :=
 ⟨h,hi,rfl,Nat.zero_le _,fun j hj=>by omega⟩
theorem PD.next{p:aO}{q:Prop'}{out:List Elem}{i k:Nat}{x:Elem}(h:PD p q i x out k)(hk:k<p.rules.length):PD p q i x (gW q out (mV (p.rules.getD k default) x)) (k+1):=by
 have hle:=Yi (q:=q) (l:=mV (p.rules.getD k default) x) (out:=out)
 have hlt:=h.lt
 have hx:x∈out:=by rw[<- h.at']; exact iY h.lt
 refine⟨⟨Pz h.inv.nd,fun y hy=>?_,fun y hy hl=>rM.2 (.inl (h.inv.ini y hy hl)),fun j hj r hr y hy hl=>?_,by omega⟩,by omega,?_,hk,fun j hj y hy hl=>?_⟩
 ·rcases rM.1 hy with g|⟨g,gl⟩
  ·exact h.inv.rc y g
  ·exact .stp (h.inv.rc x hx) (iY hk) g gl
 ·rw[Ld (by omega)] at hy
  exact rM.2 (.inl (h.inv.cl j hj r hr y hy hl))
 ·rw[Ld h.lt]; exact h.at'
 ·refine rM.2 ?_
  rcases Nat.lt_or_ge j k with g|g
  ·exact .inl (h.cl j g y hy hl)
  ·have:j=k:=by omega
   subst this
   exact .inr ⟨hy,hl⟩
theorem PD.all{p:aO}{q:Prop'}{out:List Elem}{i k:Nat}{x:Elem}(h:PD p q i x out k)(hk:p.rules.length<=k):CB p q out (i+1):=by
 refine⟨h.inv.nd,h.inv.rc,h.inv.ini,fun j hj r hr y hy hl=>?_,h.lt⟩
 rcases Nat.lt_or_ge j i with g|g
 ·exact h.inv.cl j g r hr y hy hl
 ·have:j=i:=by omega
  subst this
  rw[h.at'] at hy
  obtain⟨n,hn,e⟩:=List.mem_iff_getElem.1 hr
  have e2:p.rules.getD n default=r:=by rw[List.getD_eq_getElem?_getD,List.getElem?_eq_getElem hn]; exact e
  exact h.cl n (by omega) y (by rw[e2]; exact hy) hl
theorem CB.done{p:aO}{q:Prop'}{out:List Elem}{i:Nat}(h:CB p q out i)(hi:out.length<=i)(x:Elem):x∈out↔Uo p q x:=by
 refine⟨h.rc x,fun hx=>?_⟩
 induction hx with
 |ini hx hl=>exact h.ini _ hx hl
 |stp _ hr hy hl ih =>
  obtain⟨n,hn,e⟩:=List.mem_iff_getElem.1 ih
  refine h.cl n (by omega) _ hr _ ?_ hl
  rw[List.getD_eq_getElem?_getD,List.getElem?_eq_getElem hn,Option.getD_some,e]; exact hy
theorem CB.st{p:aO}{q:Prop'}(hc:EW p=0){out:List Elem}{i:Nat}(h:CB p q out i): ∀ x∈out,OE p x:=fun x hx=>(h.rc x hx).st hc
theorem IE{r:Rule}{a:Elem}(h:Ip a):(mV r a).length<=729:=by
 have h1:=VP (lG r (mD a.value (iP a.counts)))
 have h2:=AO (r:=r) (l:=mD a.value (iP a.counts))
 have h3:(mD a.value (iP a.counts)).length<=729:=MW (uj (O9 a.counts) a.counts.length) (by rw[kH]; exact h.len)
 unfold mV; omega
theorem PE{p:aO}{q:Prop'}(hst:p.states.length<=6):(nJ p q).length<=729:=by
 unfold nJ initK
 rw[List.length_map]
 have h1:=List.length_filter_le (Pg p q) (allM 2 p.states.length)
 rw[DT] at h1
 have h3:(2+1)^p.states.length<=3^6:=Nat.pow_le_pow_right (by decide) hst
 have h36:3^6=729:=by decide
 omega
theorem CB.len{p:aO}{q:Prop'}(hp:fG p)(hc:EW p=0){out:List Elem}{i:Nat}(h:CB p q out i):out.length<=(BH p).length/\(BH p).length<=764411904:=VO hp hc h.nd (h.st hc)
theorem CB.small{p:aO}{q:Prop'}(hc:EW p=0){out:List Elem}{i:Nat}(h:CB p q out i):gq out:=fun x hx=>by
 have:=(h.st hc x hx).abs.len; omega
noncomputable def jh(p:aO)(q:Prop'):List Elem:=sS ((BH p).filter fun x=>@decide (Uo p q x) (Classical.propDecidable _))
theorem IG{p:aO}{q:Prop'}(hc:EW p=0){x:Elem}:x∈jh p q↔Uo p q x:=by
 unfold jh
 rw[rH,List.mem_filter]
 constructor
 ·rintro⟨_,h⟩; exact @of_decide_eq_true _ (Classical.propDecidable _) h
 ·intro h; exact⟨(h.st hc).univ,@decide_eq_true _ (Classical.propDecidable _) h⟩
theorem AQ{p:aO}{q:Prop'}(hc:EW p=0){l:List Elem}(hs:SS l)(h: ∀ x,x∈l↔Uo p q x):l=jh p q :=
 E8 hs (xH _) fun x=>by rw[h]; exact(IG hc).symm
theorem aa5{Z:Nat->Prop}{h:Hp}{k:Nat}:T.sub Z h (V.row k false (.elems [])).aG (V.row 0 true .nil).aG:=by
 simp only[V.aG]; exact⟨.inl rfl,.inr rfl,fun h=>by cases h⟩
abbrev aa6(p:aO):OV:=.box 27 11 (.dat (.kS p))
abbrev ae5(p:aO)(q:Prop')(out:List Elem):List (Nat×OV):=[(0,aa6 p),(1,qw q),(3,BF 4),(4,eF out)]
set_option maxHeartbeats 2000000 in
theorem S.pq(p:aO)(q:Prop')(hp:fG p)(hq:iW q)(hv:xE p q=0):aj Tryz.prog 23 [.dat (.kS p),.dat (.prop q)] (.row 3 false (.elems (jh p q))):=by
 have hc:=RH hv
 have hst:=(rE (mJ (wV hc)).1).states
 have aha:=PE (q:=q) hst
 have hz:=CB.zero p q
 have hrl:=hp.rules
 refine aj.of Bd.pq (by simp) rfl rfl ?_
 conv=>whnf
 refine ah.pure (S.lK p q hp hq (DW hv)) rfl ?_
 rw[adr]
 conv=>whnf
 have hsi:gq (nJ p q):=fun x hx=>by have:=(OE.ini hc hx).abs.len; omega
 refine ah.Yg (q:=q) (l:=nJ p q) hq (by omega) hsi rfl rfl (by decide) rfl (fun h0=>?_) (fun x o hm=>?_)
 ·conv=>whnf
  refine aI.times 1 rfl ?_
  conv=>whnf
  refine Fork.mk (fun q=>absurd (q.symm.trans ((rfl:decide ((0:Int)<0)=false))).symm Bool.false_ne_true) (fun _=>?_)
  conv=>whnf
  refine ah.pure (S.RP) rfl ?_
  conv=>whnf
  rw[h0] at hz
  rw[<- AQ hc (l:=[]) (by simp[SS]) (hz.done (Nat.le_refl _))]
  exact⟨aa5⟩
 ·rw[hm] at hz
  generalize ho:x::o=o1 at hz ⊢
  clear ho hm
  conv=>whnf
  refine aI.nZ 5 [2,3,5,6] (fun s:List Elem×Nat=>[(7,.int s.2)]) (fun s=>ae5 p q s.1) (fun s=>CB p q s.1 s.2) (fun s=>(BH p).length-s.2) (o1,0) [0,1,3,10] rfl (by decide) (fun _=>rfl) hz ?_ ?_ ?_
  ·exact⟨⟨_,rfl,.eq rfl⟩,trivial⟩
  ·exact⟨okF rfl nofun rfl rfl rfl ⟨rfl,rfl⟩ rfl,okF rfl nofun rfl rfl rfl ⟨rfl,rfl⟩ rfl,⟨rfl,(fun _=>rfl),rfl,rfl,_,rfl,rfl,rfl,dN.of_eq rfl⟩,okF rfl nofun rfl rfl rfl ⟨rfl,rfl⟩ rfl,trivial⟩
  conv=>whnf
  refine⟨⟨⟨_,rfl,.eq rfl⟩,⟨_,rfl,.eq rfl⟩,⟨_,rfl,.eq rfl⟩,⟨_,rfl,.eq rfl⟩,trivial⟩,rfl,?_⟩
  rintro⟨out,i⟩ hI
  obtain⟨hU1,hU2⟩:=hI.len hp hc
  have hle:=hI.le
  have hso:=hI.small hc
  simp only at hU1 hle hso ⊢
  conv=>whnf
  refine⟨fun h1=>?_,fun h1=>?_⟩
  ·have hi:i<out.length:=by simpa using h1
   conv=>whnf
   refine aI.nZ 5 [2,3,5,6,7,23,24] (fun s:List Elem×Nat=>[(25,.int s.2)]) (fun s=>ae5 p q s.1) (fun s=>PD p q i (out.getD i default) s.1 s.2) (fun s=>p.rules.length-s.2) (out,0) [0,1,3,4] rfl (by decide) (fun _=>rfl) (.zero hI hi) ?_ ?_ ?_
   ·exact⟨⟨_,rfl,.eq rfl⟩,trivial⟩
   ·exact⟨okF rfl nofun rfl rfl rfl ⟨rfl,rfl⟩ rfl,okF rfl nofun rfl rfl rfl ⟨rfl,rfl⟩ rfl,⟨rfl,(fun _=>rfl),rfl,rfl,_,rfl,rfl,rfl,dN.of_eq rfl⟩,okF rfl nofun rfl rfl rfl ⟨rfl,rfl⟩ rfl,trivial⟩
   conv=>whnf
   refine⟨⟨⟨_,rfl,.eq rfl⟩,⟨_,rfl,.eq rfl⟩,⟨_,rfl,.eq rfl⟩,⟨_,rfl,.eq rfl⟩,⟨_,rfl,.eq rfl⟩,⟨_,rfl,.eq rfl⟩,⟨_,rfl,.eq rfl⟩,trivial⟩,rfl,?_⟩
   rintro⟨o2,k⟩ hM
   obtain⟨hV1,_⟩:=hM.inv.len hp hc
   have hs2:=hM.inv.small hc
   have hlt:=hM.lt
   have hat:=hM.at'
   have hSt:=hM.inv.st hc _ (iY (d:=default) hlt)
   simp only at hV1 hs2 hlt hat hSt ⊢
   conv=>whnf
   refine⟨fun h2=>?_,fun h2=>?_⟩
   ·have hk:k<p.rules.length:=by simpa using h2
    have hnx:=hM.next hk
    simp only at hnx
    conv=>whnf
    repeat(refine VC.mk (by simp only[Rw.rng] at *; first|omega|(simp_all; done)|(simp_all; omega)) ?_; conv=>whnf)
    have hpl:zK (o2.getD i default).counts.length (p.rules.getD k default):=by rw[hSt.len]; exact(wtR hc hk).place
    refine ah.pure (S.rG (p.rules.getD k default) (o2.getD i default) (hp.rule k) hpl hSt.abs.ok hSt.abs.pos hSt.abs.len) rfl ?_
    have hpo:=IE (r:=p.rules.getD k default) hSt.abs
    have hsp:gq (mV (p.rules.getD k default) (o2.getD i default)):=fun y hy=>by rw[VQ hy]; have:=hSt.abs.len; omega
    conv=>whnf
    refine ah.Yf (q:=q) (out:=o2) (l:=mV (p.rules.getD k default) (o2.getD i default)) hq (by omega) hs2 hsp rfl rfl rfl (by decide) (by decide) (by decide) rfl ?_
    conv=>whnf
    refine .mk (by simp only[okI] at *; first|omega|(simp_all; done)|(simp_all; omega)) ?_
    conv=>whnf
    refine⟨(gW q o2 (mV (p.rules.getD k default) (o2.getD i default)),k+1),[0,1,3,17],by rw[hat]; exact hnx,by simp only; omega,⟨⟨_,rfl,.eq rfl⟩,trivial⟩,⟨⟨_,rfl,.eq rfl⟩,⟨_,rfl,.eq rfl⟩,⟨_,rfl,.eq rfl⟩,⟨_,rfl,.eq rfl⟩,⟨_,rfl,.eq rfl⟩,⟨_,rfl,.eq rfl⟩,⟨_,rfl,.eq rfl⟩,trivial⟩,okF rfl nofun rfl rfl rfl ⟨rfl,rfl⟩ rfl,okF rfl nofun rfl rfl rfl ⟨rfl,rfl⟩ rfl,⟨rfl,(fun _=>rfl),rfl,rfl,_,rfl,rfl,rfl,dN.of_eq rfl⟩,okF rfl nofun rfl rfl rfl ⟨rfl,rfl⟩ rfl,trivial⟩
   ·have hk:p.rules.length<=k:=by simpa using h2
    conv=>whnf
    refine .mk (by simp only[okI] at *; first|omega|(simp_all; done)|(simp_all; omega)) ?_
    conv=>whnf
    refine⟨(o2,i+1),[0,1,3,4],hM.all hk,by simp only; omega,⟨⟨_,rfl,.eq rfl⟩,trivial⟩,⟨⟨_,rfl,.eq rfl⟩,⟨_,rfl,.eq rfl⟩,⟨_,rfl,.eq rfl⟩,⟨_,rfl,.eq rfl⟩,trivial⟩,okF rfl nofun rfl rfl rfl ⟨rfl,rfl⟩ rfl,okF rfl nofun rfl rfl rfl ⟨rfl,rfl⟩ rfl,⟨rfl,(fun _=>rfl),rfl,rfl,_,rfl,rfl,rfl,dN.of_eq rfl⟩,okF rfl nofun rfl rfl rfl ⟨rfl,rfl⟩ rfl,trivial⟩
  ·have hi:out.length<=i:=by simpa using h1
   conv=>whnf
   refine ah.XT rfl rfl (by omega) hso ?_ (fun m=>?_)
   ·rw[AQ hc (xH out) (fun x=>(rH out x).trans (hI.done hi x))]
    conv=>whnf
    exact ak.VD rfl
   ·rw[AQ hc (xH out) (fun x=>(rH out x).trans (hI.done hi x))]
    conv=>whnf
    exact ak.ado rfl
set_option maxHeartbeats 1000000 in
theorem S.Nh(p:aO)(q:Prop')(hp:fG p)(hq:iW q)(hv:jf p q=0)(n:Nat):aN Tryz.prog 51 (V.bn [.dat (.kS p),.dat (.prop q)]) (Hz.ay []) n (fun t hp=>t= .own n/\hp=Hz.ay [(n,some (eF (nJ p q)))]):=by
 have hst:=(rE (yM hv)).states
 have hpos:=(rE (yM hv)).pos
 have hsl:=KP hp hq
 refine oI.of (nx:=0) Bd.sU (by simp) ⟨_,_,rfl,rfl⟩ rfl rfl ?_
 conv=>whnf
 refine ah.pure (S.pz p q hp hq hv) rfl ?_
 conv=>whnf
 refine ah.pure (S.X3 2 p.states.length hpos hst (by decide)) rfl ?_
 conv=>whnf
 have hal:=DT (m:=2) (n:=p.states.length)
 have hal2:(2+1)^p.states.length<=3^6:=Nat.pow_le_pow_right (by decide) hst
 have h36:3^6=729:=by decide
 refine aI.nil 8 54 3 (by rfl) rfl rfl rfl ?_
 refine aI.nZ 19 [5,7] (fun i:Nat=>[(9,.int i),(8,.own 18)]) (fun i=>[(18,eF (initK p q ((allM 2 p.states.length).take i)))]) (fun i=>i<=(allM 2 p.states.length).length) (fun i=>(allM 2 p.states.length).length-i) 0 [18] rfl (by decide) (fun _=>rfl) (Nat.zero_le _) ?_ ?_ ?_
 ·exact⟨⟨_,rfl,.eq rfl⟩,⟨_,rfl,.eq rfl⟩,trivial⟩
 ·exact⟨okF rfl nofun rfl rfl rfl ⟨rfl,rfl⟩ rfl,trivial⟩
 conv=>whnf
 refine⟨⟨⟨_,rfl,.eq rfl⟩,⟨_,rfl,.eq rfl⟩,trivial⟩,rfl,?_⟩
 rintro i hi
 have hkl:=VH (p:=p) (q:=q) (l:=(allM 2 p.states.length).take i)
 rw[List.length_take] at hkl
 conv=>whnf
 refine⟨fun h1=>?_,fun h1=>?_⟩
 ·have hi':i<(allM 2 p.states.length).length:=by simpa using h1
  have hcl:((allM 2 p.states.length).getD i []).length=p.states.length:=(zO.1 (iY hi')).1
  have hstep:=RG (p:=p) (q:=q) hi'
  conv=>whnf
  refine .mk (by simp only[Rw.rng] at *; first|omega|(simp_all; done)|(simp_all; omega)) ?_
  conv=>whnf
  refine ah.pure (S.rO ⟨0,(allM 2 p.states.length).getD i []⟩ (by show((allM 2 p.states.length).getD i []).length<_; omega)) rfl ?_
  conv=>whnf
  repeat(refine VC.mk (by first|exact id|exact fun h=>⟨h,h⟩|(intro h; (repeat' apply And.intro)<;>first|exact h|omega|(simp only[Rw.qp]; omega)|(simp only[Rw.rng]; omega))) ?_; conv=>whnf)
  refine ah.iD (fun _=>S.nI (mO p q) ((allM 2 p.states.length).getD i []) false false (by omega) (by omega)) rfl ?_
  conv=>whnf
  refine VC.mk id ?_
  conv=>whnf
  refine⟨fun h2=>?_,fun h2=>?_⟩
  ·replace h2:Pg p q ((allM 2 p.states.length).getD i [])=true:=h2
   rw[if_pos h2] at hstep
   conv=>whnf
   refine ah.pure (S.oJ ⟨0,(allM 2 p.states.length).getD i []⟩ (by show((allM 2 p.states.length).getD i []).length<_; omega)) rfl ?_
   conv=>whnf
   repeat(refine VC.mk (by first|(show((initK p q ((allM 2 p.states.length).take i)).length+(0+1))*32<=140737488355328/\(initK p q ((allM 2 p.states.length).take i)).length+(0+1)<=1152921504606846976; omega)|(simp only[okI] at *; first|omega|(simp_all; done)|(simp_all; omega))) ?_; conv=>whnf)
   refine⟨i+1,[45],by omega,by omega,⟨⟨_,rfl,.eq rfl⟩,⟨_,rfl,.eq rfl⟩,trivial⟩,⟨⟨_,rfl,.eq rfl⟩,⟨_,rfl,.eq rfl⟩,trivial⟩,okF rfl nofun rfl rfl rfl ⟨rfl,rfl⟩ ?_,trivial⟩
   rw[hstep]
   show List.map eG (initK p q ((allM 2 p.states.length).take i)++[⟨0,(allM 2 p.states.length).getD i []⟩])++[]=List.map eG (initK p q ((allM 2 p.states.length).take i))++[eG ⟨0,(allM 2 p.states.length).getD i []⟩]
   simp
  ·replace h2:Pg p q ((allM 2 p.states.length).getD i [])=false:=h2
   rw[if_neg (by rw[h2]; decide),List.append_nil] at hstep
   conv=>whnf
   refine .mk (by simp only[okI] at *; first|omega|(simp_all; done)|(simp_all; omega)) ?_
   conv=>whnf
   refine⟨i+1,[18],by omega,by omega,⟨⟨_,rfl,.eq rfl⟩,⟨_,rfl,.eq rfl⟩,trivial⟩,⟨⟨_,rfl,.eq rfl⟩,⟨_,rfl,.eq rfl⟩,trivial⟩,okF rfl nofun rfl rfl rfl ⟨rfl,rfl⟩ (by rw[hstep]),trivial⟩
 ·have hi':(allM 2 p.states.length).length<=i:=by simpa using h1
  rw[List.take_of_length_le hi']
  conv=>whnf
  exact ny.one (c:=n) (j:=18) (o:=eF (nJ p q)) (t:=.own n) rfl rfl rfl nofun (.inr rfl) rfl (.eq rfl) ⟨rfl,rfl⟩
theorem S.Nj(p:aO)(q:Prop')(hp:fG p)(hq:iW q)(hv:jf p q=0):qY Tryz.prog 51 (V.bn [.dat (.kS p),.dat (.prop q)]) (fun n=>.own n) (some ⟨54,3,(Rw.elems (nJ p q)).bn⟩):=by
 refine⟨rfl,fun n=>rfl,fun ob h=>?_,fun ob h=>?_,fun n=>?_⟩
 ·cases h; exact uX _
 ·cases h; exact show(3:Nat)≠dI by decide
 ·have:=S.Nh p q hp hq hv n
  have e1:Hz.ay [(n,some (eF (nJ p q)))]=fO no n (some ⟨54,3,(Rw.elems (nJ p q)).bn⟩):=by
   rw[bQ]; simp[fO,OV.aF,V.bn]; rfl
  rw[e1] at this
  exact this
theorem S.pF(q:Prop')(a:Elem)(hq:iW q)(ha:a.counts.length<2^40):aj Tryz.prog 52 [.dat (.prop q),.dat (.elem a)] (.bool (oK q a)):=by
 have hg:=hq.goal
 refine aj.of Bd.pF (by simp) rfl rfl ?_
 conv=>whnf
 repeat(refine VC.mk (by first|exact id|exact fun h=>⟨h,h⟩) ?_; conv=>whnf)
 refine ah.iD (fun _=>S.nI q.goal a.counts false false (by omega) (by omega)) rfl ?_
 conv=>whnf
 repeat(refine VC.mk (by first|exact id|(intro h; rw[h]; rfl)) ?_; conv=>whnf)
 exact ak.bool (by rw[oK,Yd])
theorem Yj{l:List Elem}{e:Elem}(h:rP l e=true):e∈l:=by
 unfold rP at h
 rw[Bool.and_eq_true] at h
 have h1:=of_decide_eq_true h.1
 have h2:=of_decide_eq_true h.2
 rw[kX] at h2
 rw[<- h2]
 have:=G5 (l:=l) (e:=e) l.length
 exact iY (by omega)
theorem Le{l:List Elem}{e:Elem}(h:rP l e=false):(nC l e).length=l.length+1:=by
 have:=G5 (l:=l) (e:=e) l.length
 rw[nC,if_neg (by rw[h]; decide),List.length_append,List.length_cons,List.length_take,List.length_drop]; omega
theorem PG{l:List Elem}(h:SS l):l.Nodup:=by
 unfold SS at h
 refine h.imp fun {a b} hab e=>?_
 have h0:iK a b=0:=by rw[kX]; exact e
 omega
theorem II{p:aO}{l:List Elem}(hc:EW p=0)(hn:l.Nodup)(hs: ∀ x∈l,OE p x):l.length<=2187:=by
 have hv:=rE (mJ (wV hc)).1
 have h1:=Py hn fun x hx=>(hs x hx).univ
 rw[La] at h1
 have h3:3^p.states.length<=3^6:=Nat.pow_le_pow_right (by decide) hv.states
 have hva:=hv.values
 have h2:max 1 p.values.length<=3:=by omega
 exact Nat.le_trans h1 (Nat.le_trans (Nat.mul_le_mul h2 h3) (by decide))
def zT(p:aO)(x:Elem)(k:Nat):List Elem:=(p.rules.take k).flatMap fun r=>mV r x
theorem VR{p:aO}{x:Elem}{k:Nat}(hk:k<p.rules.length):zT p x (k+1)=zT p x k++mV (p.rules.getD k default) x:=by
 unfold zT
 have ht:p.rules.take (k+1)=p.rules.take k++[p.rules.getD k default]:=by rw[List.take_add_one]; simp[hk]
 rw[ht,List.flatMap_append]; simp
theorem PI{p:aO}{x:Elem}{k:Nat}(hc:EW p=0)(h:Ip x):(zT p x k).length<=5832:=by
 have hv:=(rE (mJ (wV hc)).1).adu
 have h1:=DI (f:=fun r=>mV r x) (k:=729) (l:=p.rules.take k) fun r _=>IE h
 rw[List.length_take] at h1
 unfold zT
 have h2:min k p.rules.length<=8:=by omega
 exact Nat.le_trans h1 (Nat.le_trans (Nat.mul_le_mul_right 729 h2) (by decide))
theorem PK{p:aO}{x y:Elem}:y∈zT p x p.rules.length↔ ∃ r∈p.rules,y∈mV r x:=by
 unfold zT
 rw[List.take_length,List.mem_flatMap]
structure zU(p:aO)(q:Prop')(T O:List Elem)(i:Nat):Prop where
 ss:SS O
 rc: ∀ x∈O,Uo p q x
 gen: ∀ x∈T,x∈nJ p q\/ ∃ y r,Uo p q y/\r∈p.rules/\x∈mV r y
 ini: ∀ x∈nJ p q,x∈T
 dn: ∀ j,j<i->oK q (T.getD j default)=true->T.getD j default∈O
 cl: ∀ x∈O,∀ r∈p.rules,∀ y∈mV r x,y∈T
 le:i<=T.length
 tl:T.length<=729+O.length*5832
theorem zU.zero{p:aO}{q:Prop'}(hc:EW p=0):zU p q (nJ p q) [] 0 :=
 ⟨by simp[SS],(fun x hx=>by cases hx),(fun x hx=>.inl hx),(fun x hx=>hx),(fun j hj=>by omega),(fun x hx=>by cases hx),Nat.zero_le _,by
  have:=PE (p:=p) (q:=q) (rE (mJ (wV hc)).1).states
  simpa using this⟩
theorem zU.reach{p:aO}{q:Prop'}{T O:List Elem}{i:Nat}(h:zU p q T O i){x:Elem}(hx:x∈T)(hl:oK q x=true):Uo p q x:=by
 rcases h.gen x hx with g|⟨y,r,g1,g2,g3⟩
 ·exact .ini g hl
 ·exact .stp g1 g2 g3 hl
theorem zU.st{p:aO}{q:Prop'}{T O:List Elem}{i:Nat}(hc:EW p=0)(h:zU p q T O i){x:Elem}(hx:x∈T):OE p x:=by
 rcases h.gen x hx with g|⟨y,r,g1,g2,g3⟩
 ·exact .ini hc g
 ·exact(g1.st hc).post hc g2 g3
theorem zU.skip{p:aO}{q:Prop'}{T O:List Elem}{i:Nat}(h:zU p q T O i)(hi:i<T.length)(hs:oK q (T.getD i default)=true->T.getD i default∈O):zU p q T O (i+1) :=
 ⟨h.ss,h.rc,h.gen,h.ini,fun j hj hl=>by
  rcases Nat.lt_or_ge j i with g|g
  ·exact h.dn j g hl
  ·have:j=i:=by omega
   subst this
   exact hs hl,h.cl,hi,h.tl⟩
theorem zU.next{p:aO}{q:Prop'}{T O:List Elem}{i:Nat}(hc:EW p=0)(h:zU p q T O i)(hi:i<T.length)(hl:oK q (T.getD i default)=true)(hf:rP O (T.getD i default)=false):zU p q (T++zT p (T.getD i default) p.rules.length) (nC O (T.getD i default)) (i+1):=by
 have hm:T.getD i default∈T:=iY hi
 have hR:=h.reach hm hl
 have hS:=h.st hc hm
 obtain⟨s1,s2⟩:=IJ (e:=T.getD i default) h.ss
 have hg: ∀ j,j<T.length->(T++zT p (T.getD i default) p.rules.length).getD j default=T.getD j default:=fun j hj=>by
  rw[List.getD_eq_getElem?_getD,List.getElem?_append_left hj,<- List.getD_eq_getElem?_getD]
 refine⟨s1,fun x hx=>?_,fun x hx=>?_,fun x hx=>List.mem_append_left _ (h.ini x hx),fun j hj hlk=>?_,fun x hx r hr y hy=>?_,?_,?_⟩
 ·rcases(s2 x).1 hx with rfl|g
  ·exact hR
  ·exact h.rc x g
 ·rcases List.mem_append.1 hx with g|g
  ·exact h.gen x g
  ·obtain⟨r,g1,g2⟩:=PK.1 g
   exact .inr ⟨_,r,hR,g1,g2⟩
 ·rw[hg j (by omega)] at hlk ⊢
  rcases Nat.lt_or_ge j i with g|g
  ·exact(s2 _).2 (.inr (h.dn j g hlk))
  ·have:j=i:=by omega
   subst this
   exact(s2 _).2 (.inl rfl)
 ·rcases(s2 x).1 hx with rfl|g
  ·exact List.mem_append_right _ (PK.2 ⟨r,hr,hy⟩)
  ·exact List.mem_append_left _ (h.cl x g r hr y hy)
 ·rw[List.length_append]; omega
 ·have h1:=h.tl
  have h2:=PI (k:=p.rules.length) hc hS.abs
  rw[List.length_append,Le hf]; omega
theorem zU.done{p:aO}{q:Prop'}{T O:List Elem}{i:Nat}(h:zU p q T O i)(hi:T.length<=i)(x:Elem):x∈O↔Uo p q x:=by
 have key: ∀ x,x∈T->oK q x=true->x∈O:=fun x hx hl=>by
  obtain⟨n,hn,e⟩:=List.mem_iff_getElem.1 hx
  have e2:T.getD n default=x:=by rw[List.getD_eq_getElem?_getD,List.getElem?_eq_getElem hn]; exact e
  rw[<- e2] at hl ⊢
  exact h.dn n (by omega) hl
 refine⟨h.rc x,fun hx=>?_⟩
 induction hx with
 |ini hx hl=>exact key _ (h.ini _ hx) hl
 |stp _ hr hy hl ih=>exact key _ (h.cl _ ih _ hr _ hy) hl
theorem zU.len{p:aO}{q:Prop'}{T O:List Elem}{i:Nat}(hc:EW p=0)(h:zU p q T O i):O.length<=2187:=II hc (PG h.ss) fun x hx=>(h.rc x hx).st hc
abbrev objT(p:aO)(q:Prop')(T O:List Elem):List (Nat×OV):=[(0,aa6 p),(1,qw q),(2,eF T),(3,eF O)]
set_option maxHeartbeats 2000000 in
theorem S.rQ(p:aO)(q:Prop')(hp:fG p)(hq:iW q)(hv:xE p q=0):aj Tryz.prog 26 [.dat (.kS p),.dat (.prop q)] (.row 3 false (.elems (jh p q))):=by
 have hc:=RH hv
 have hrl:=hp.rules
 refine aj.of Bd.rQ (by simp) rfl rfl ?_
 conv=>whnf
 refine ah.mkRow (r:=.elems (nJ p q)) (S.Nj p q hp hq (DW hv)) ?_
 conv=>whnf
 refine aI.nil 6 54 3 (by rfl) rfl rfl rfl ?_
 refine aI.nZ 4 [2,3] (fun s:(List Elem×List Elem)×Nat=>[(7,.int s.2),(5,.own 2),(6,.own 3)]) (fun s=>objT p q s.1.1 s.1.2) (fun s=>zU p q s.1.1 s.1.2 s.2) (fun s=>(2187-s.1.2.length)*6000+(s.1.1.length-s.2)) ((nJ p q,[]),0) [0,1,5,9] rfl (by decide) (fun _=>rfl) (.zero hc) ?_ ?_ ?_
 ·exact⟨⟨_,rfl,.eq rfl⟩,⟨_,rfl,.eq rfl⟩,⟨_,rfl,.eq rfl⟩,trivial⟩
 ·exact⟨okF rfl nofun rfl rfl rfl ⟨rfl,rfl⟩ rfl,okF rfl nofun rfl rfl rfl ⟨rfl,rfl⟩ rfl,okF rfl nofun rfl rfl rfl ⟨rfl,rfl⟩ rfl,okF rfl nofun rfl rfl rfl ⟨rfl,rfl⟩ rfl,trivial⟩
 conv=>whnf
 refine⟨⟨⟨_,rfl,.eq rfl⟩,⟨_,rfl,.eq rfl⟩,trivial⟩,rfl,?_⟩
 rintro⟨⟨T,O⟩,i⟩ hI
 have hO:=hI.len hc
 have hT:=hI.tl
 have hle:=hI.le
 simp only at hO hT hle ⊢
 conv=>whnf
 refine⟨fun h1=>?_,fun h1=>?_⟩
 ·have hi:i<T.length:=by simpa using h1
  have hm:T.getD i default∈T:=iY hi
  have hS:=hI.st hc hm
  have hsl:=hS.abs.len
  conv=>whnf
  repeat(refine VC.mk (by simp only[Rw.rng] at *; first|omega|(simp_all; done)|(simp_all; omega)) ?_; conv=>whnf)
  refine ah.pure (S.pF q (T.getD i default) hq (by omega)) rfl ?_
  conv=>whnf
  refine⟨fun h2=>?_,fun h2=>?_⟩
  ·have hsO:gq O:=fun x hx=>by have:=((hI.rc x hx).st hc).abs.len; omega
   conv=>whnf
   repeat(refine VC.mk (by simp only[Rw.rng] at *; first|omega|(simp_all; done)|(simp_all; omega)) ?_; conv=>whnf)
   refine ah.insert (i:=3) (l:=O) (e:=T.getD i default) rfl rfl (by omega) hsO (by omega) (fun hf=>?_) (fun hf=>?_)
   ·conv=>whnf
    refine⟨fun h3=>?_,fun h3=>?_⟩
    ·conv=>whnf
     refine .mk (by simp only[okI] at *; first|omega|(simp_all; done)|(simp_all; omega)) ?_
     conv=>whnf
     refine⟨((T,O),i+1),[0,1,2,3],hI.skip hi (fun _=>Yj hf),by simp only; omega,⟨⟨_,rfl,.eq rfl⟩,⟨_,rfl,.eq rfl⟩,⟨_,rfl,.eq rfl⟩,trivial⟩,⟨⟨_,rfl,.eq rfl⟩,⟨_,rfl,.eq rfl⟩,trivial⟩,okF rfl nofun rfl rfl rfl ⟨rfl,rfl⟩ rfl,okF rfl nofun rfl rfl rfl ⟨rfl,rfl⟩ rfl,okF rfl nofun rfl rfl rfl ⟨rfl,rfl⟩ rfl,okF rfl nofun rfl rfl rfl ⟨rfl,rfl⟩ rfl,trivial⟩
    ·exact absurd h3 (by simp)
   ·have hnext:=hI.next hc hi h2 hf
    have hin:=Le hf
    have hO2:=hnext.len hc
    simp only at hO2 hnext
    conv=>whnf
    refine⟨fun h3=>?_,fun h3=>?_⟩
    ·exfalso
     replace h3:decide (((nC O (T.getD i default)).length:Int)=O.length)=true:=h3
     rw[hin] at h3
     have:=of_decide_eq_true h3
     omega
    ·conv=>whnf
     refine aI.nZ 4 [2,3,7] (fun k:Nat=>[(9,.int k),(5,.own 2),(6,.own 3)]) (fun k=>objT p q (T++zT p (T.getD i default) k) (nC O (T.getD i default))) (fun k=>k<=p.rules.length) (fun k=>p.rules.length-k) 0 [0,1,2,22] rfl (by decide) (fun _=>rfl) (Nat.zero_le _) ?_ ?_ ?_
     ·exact⟨⟨_,rfl,.eq rfl⟩,⟨_,rfl,.eq rfl⟩,⟨_,rfl,.eq rfl⟩,trivial⟩
     ·exact⟨okF rfl nofun rfl rfl rfl ⟨rfl,rfl⟩ rfl,okF rfl nofun rfl rfl rfl ⟨rfl,rfl⟩ rfl,okF rfl nofun rfl rfl rfl ⟨rfl,rfl⟩ (by rw[show zT p (T.getD i default) 0=[] from rfl,List.append_nil]),okF rfl nofun rfl rfl rfl ⟨rfl,rfl⟩ rfl,trivial⟩
     conv=>whnf
     refine⟨⟨⟨_,rfl,.eq rfl⟩,⟨_,rfl,.eq rfl⟩,⟨_,rfl,.eq rfl⟩,trivial⟩,rfl,?_⟩
     rintro k hk
     have hat:(T++zT p (T.getD i default) k).getD i default=T.getD i default:=by
      rw[List.getD_eq_getElem?_getD,List.getElem?_append_left hi,<- List.getD_eq_getElem?_getD]
     have hnl:=PI (k:=k) hc hS.abs
     have hal:(T++zT p (T.getD i default) k).length=T.length+(zT p (T.getD i default) k).length:=List.length_append
     conv=>whnf
     refine⟨fun h4=>?_,fun h4=>?_⟩
     ·have hk':k<p.rules.length:=by simpa using h4
      have hstep:=VR (x:=T.getD i default) hk'
      conv=>whnf
      repeat(refine VC.mk (by simp only[Rw.rng]; omega) ?_; conv=>whnf)
      have hpl:zK ((T++zT p (T.getD i default) k).getD i default).counts.length (p.rules.getD (k:Int).toNat default):=by rw[hat,hS.len]; exact(wtR hc hk').place
      refine ah.pure (S.uY p k ((T++zT p (T.getD i default) k).getD i default) hp hpl (by omega) (by rw[hat]; exact hS.abs)) rfl ?_
      rw[hat]
      have hpo:=IE (r:=p.rules.getD (k:Int).toNat default) hS.abs
      conv=>whnf
      repeat(refine VC.mk (by first|(simp only[nG,og,Rw.len,List.length_append]; omega)|(simp only[okI] at *; first|omega|(simp_all; done)|(simp_all; omega))) ?_; conv=>whnf)
      refine⟨k+1,[0,1,17,3],hk',by omega,⟨⟨_,rfl,.eq rfl⟩,⟨_,rfl,.eq rfl⟩,⟨_,rfl,.eq rfl⟩,trivial⟩,⟨⟨_,rfl,.eq rfl⟩,⟨_,rfl,.eq rfl⟩,⟨_,rfl,.eq rfl⟩,trivial⟩,okF rfl nofun rfl rfl rfl ⟨rfl,rfl⟩ rfl,okF rfl nofun rfl rfl rfl ⟨rfl,rfl⟩ rfl,okF rfl nofun rfl rfl rfl ⟨rfl,rfl⟩ ?_,okF rfl nofun rfl rfl rfl ⟨rfl,rfl⟩ rfl,trivial⟩
      rw[hstep,<- List.append_assoc]; rfl
     ·have hk2: ¬ k<p.rules.length:=by simpa using h4
      have hk':k=p.rules.length:=by omega
      subst hk'
      conv=>whnf
      refine .mk (by simp only[okI] at *; first|omega|(simp_all; done)|(simp_all; omega)) ?_
      conv=>whnf
      refine⟨((T++zT p (T.getD i default) p.rules.length,nC O (T.getD i default)),i+1),[0,1,2,3],hnext,by simp only; omega,⟨⟨_,rfl,.eq rfl⟩,⟨_,rfl,.eq rfl⟩,⟨_,rfl,.eq rfl⟩,trivial⟩,⟨⟨_,rfl,.eq rfl⟩,⟨_,rfl,.eq rfl⟩,trivial⟩,okF rfl nofun rfl rfl rfl ⟨rfl,rfl⟩ rfl,okF rfl nofun rfl rfl rfl ⟨rfl,rfl⟩ rfl,okF rfl nofun rfl rfl rfl ⟨rfl,rfl⟩ rfl,okF rfl nofun rfl rfl rfl ⟨rfl,rfl⟩ rfl,trivial⟩
  ·conv=>whnf
   refine⟨fun h3=>?_,fun h3=>?_⟩
   ·conv=>whnf
    refine .mk (by simp only[okI] at *; first|omega|(simp_all; done)|(simp_all; omega)) ?_
    conv=>whnf
    refine⟨((T,O),i+1),[0,1,2,3],hI.skip hi (fun h=>absurd (h.symm.trans h2) (by decide)),by simp only; omega,⟨⟨_,rfl,.eq rfl⟩,⟨_,rfl,.eq rfl⟩,⟨_,rfl,.eq rfl⟩,trivial⟩,⟨⟨_,rfl,.eq rfl⟩,⟨_,rfl,.eq rfl⟩,trivial⟩,okF rfl nofun rfl rfl rfl ⟨rfl,rfl⟩ rfl,okF rfl nofun rfl rfl rfl ⟨rfl,rfl⟩ rfl,okF rfl nofun rfl rfl rfl ⟨rfl,rfl⟩ rfl,okF rfl nofun rfl rfl rfl ⟨rfl,rfl⟩ rfl,trivial⟩
   ·exact absurd h3 (by simp)
 ·have hi:T.length<=i:=by simpa using h1
  rw[<- AQ hc hI.ss (hI.done hi)]
  conv=>whnf
  exact ak.VD rfl
theorem Nk{p:aO}{q:Prop'}{k:Int}(h:OD p q k=0):xE p q=0:=by
 unfold OD at h
 cases hb:(xE p q==0)&&(q.kind !=k) with
 |true=>rw[hb] at h; exact absurd (show(7:Int)=0 from h) (by decide)
 |false=>rw[hb] at h; exact h
noncomputable def rcL(p:aO)(q:Prop'):List Elem:=@ite _ (xE p q=0) (Classical.propDecidable _) (jh p q) []
theorem adv{p:aO}{q:Prop'}(h:xE p q≠0):rcL p q=[]:=if_neg h
theorem Ur{p:aO}{q:Prop'}(h:xE p q=0):rcL p q=jh p q:=if_pos h
theorem adw(p:aO)(q:Prop'):(rcL p q).length<=2187/\ ∀ x∈rcL p q,OE p x:=by
 by_cases h:xE p q=0
 ·have hc:=RH h
  rw[Ur h]
  have hs: ∀ x∈jh p q,OE p x:=fun x hx=>((IG hc).1 hx).st hc
  exact⟨II hc (PG (xH _)) hs,hs⟩
 ·rw[adv h]; exact⟨by decide,fun x hx=>by cases hx⟩
def zV(st c:List Int):Int:=(st.map fun x=>c.getD x.toNat 0).sum
def aa7(q:Prop')(c:List Int):Bool:=q.bad.all fun k=>decide (k.least<=zV k.states c)
structure VT(n:Nat)(q:Prop'):Prop where
 place: ∀ k∈q.bad,qG n k.states
 least: ∀ k∈q.bad,1<=k.least/\k.least<=3
 some: ∀ k∈q.bad,k.states≠[]
theorem VU{st c:List Int}{i:Nat}(hi:i<st.length):zV (st.take (i+1)) c=zV (st.take i) c+c.getD (st.getD i 0).toNat 0:=by
 unfold zV
 rw[List.take_add_one,List.map_append,List.sum_append]; simp[hi]
theorem Yk{st c:List Int}(h:Fb 8 c):0<=zV st c/\zV st c<=8*st.length:=by
 unfold zV
 induction st with
 |nil=>simp
 |cons x r ih =>
  have:=h.g (by omega) x.toNat
  simp only[List.map_cons,List.sum_cons,List.length_cons]; omega
theorem getD_mem{α:Type}{l:List α}{i:Nat}{d:α}(hi:i<l.length):l.getD i d∈l:=by
 rw[show l.getD i d=l[i] by simp[hi]]; exact List.getElem_mem hi
theorem S.lM(q:Prop')(c:List Int)(f:Bool)(hq:iW q)(hb:VT c.length q)(hc:Fb 8 c)(_hl:c.length<2^30):aj Tryz.prog 28 [.dat (.prop q),.row 0 f (.ints c)] (.bool (aa7 q c)):=by
 have q2:=hq.bad
 refine aj.of Bd.lM (by simp) rfl rfl ?_
 conv=>whnf
 refine aI.same [1,2] (fun i:Nat=>[(5,.int i)]) (fun i=>i<=q.bad.length/\(q.bad.take i).all (fun k=>decide (k.least<=zV k.states c))=true) (fun i=>q.bad.length-i) 0 rfl (by decide) rfl (fun _=>rfl) ⟨by omega,by simp⟩ ⟨⟨_,rfl,rfl⟩,trivial⟩ ?_
 conv=>whnf
 refine⟨rfl,?_⟩
 rintro i ⟨hi,hall⟩
 conv=>whnf
 refine⟨fun h3=>?_,fun h3=>?_⟩
 ·have hi':i<q.bad.length:=by simpa using h3
  have hk:=getD_mem (d:=default) hi'
  have hpl:=hb.place _ hk
  have hsz:=hq.cnt i
  conv=>whnf
  refine aI.same [1,2,5] (fun j:Nat=>[(7,.int j),(6,.int (zV ((q.bad.getD i default).states.take j) c))]) (fun j=>j<=(q.bad.getD i default).states.length) (fun j=>(q.bad.getD i default).states.length-j) 0 rfl (by decide) rfl (fun _=>rfl) (Nat.zero_le _) ⟨⟨_,rfl,rfl⟩,⟨_,rfl,rfl⟩,trivial⟩ ?_
  conv=>whnf
  refine⟨rfl,?_⟩
  rintro j hj
  have hs1:=Yk (st:=(q.bad.getD i default).states.take j) hc
  have hl1:((q.bad.getD i default).states.take j).length<=(q.bad.getD i default).states.length:=by rw[List.length_take]; omega
  conv=>whnf
  refine .mk (by simp only[Rw.rng] at *; first|omega|(simp_all; done)|(simp_all; omega)) ?_
  conv=>whnf
  refine⟨fun h4=>?_,fun h4=>?_⟩
  ·have hj':j<(q.bad.getD i default).states.length:=by simpa using h4
   have hst:=VU (c:=c) hj'
   have hg:=hc.g (by omega) ((q.bad.getD i default).states.getD j 0).toNat
   obtain⟨p1,p2⟩:=hpl _ (getD_mem (d:=0) hj')
   conv=>whnf
   repeat(refine VC.mk (by first|(simp only[Rw.rng,Int.toNat_natCast]; omega)|(simp only[okI,Int.toNat_natCast] at *; omega)) ?_; conv=>whnf)
   refine⟨j+1,by omega,by omega,⟨⟨_,rfl,rfl⟩,⟨_,rfl,?_⟩,trivial⟩,?_,rfl⟩
   ·rw[hst]; rfl
   ·repeat' (first|exact trivial|exact⟨_,rfl,rfl⟩|constructor)
  ·have hj':(q.bad.getD i default).states.length<=j:=by simpa using h4
   rw[List.take_of_length_le hj']
   conv=>whnf
   refine .mk (by simp only[Rw.rng] at *; first|omega|(simp_all; done)|(simp_all; omega)) ?_
   conv=>whnf
   refine⟨fun h5=>?_,fun h5=>?_⟩
   ·conv=>whnf
    refine ak.bool ?_
    have: ¬ (q.bad.getD i default).least<=zV (q.bad.getD i default).states c:=by
     simp only[Int.toNat_natCast] at h5
     have:=of_decide_eq_true h5; omega
    exact yO (p:=fun k=>decide (k.least<=zV k.states c)) (d:=default) hi' (decide_eq_false this)
   ·conv=>whnf
    refine .mk (by simp only[okI] at *; first|omega|(simp_all; done)|(simp_all; omega)) ?_
    conv=>whnf
    have:(q.bad.getD i default).least<=zV (q.bad.getD i default).states c:=by
     simp only[Int.toNat_natCast] at h5
     have:=of_decide_eq_false h5; omega
    refine⟨i+1,⟨by omega,?_⟩,by omega,⟨⟨_,rfl,rfl⟩,trivial⟩,?_,rfl⟩
    ·rw[AU (d:=default) hi' hall]; exact decide_eq_true this
    ·repeat' (first|exact trivial|exact⟨_,rfl,rfl⟩|constructor)
 ·have hi':q.bad.length<=i:=by simpa using h3
  rw[List.take_of_length_le hi'] at hall
  conv=>whnf
  exact ak.bool hall
theorem Yl{p:aO}{q:Prop'}(hp:jf p q=0)(hk:q.kind=1):VT p.states.length q:=by
 unfold jf at hp
 obtain⟨_,hp⟩:=bz nz hp
 obtain⟨_,hp⟩:=bz (fun _=>by decide) hp
 obtain⟨_,hp⟩:=bz (fun _=>by decide) hp
 obtain⟨_,hp⟩:=bz (fun _=>by decide) hp
 obtain⟨_,hp⟩:=bz nz hp
 obtain⟨_,hp⟩:=bz (fun _=>by decide) hp
 rw[show(!(q.kind==1))=false by simp[hk]] at hp
 have hcn:=lN hp (uq q.bad p.states.length) (by simp)
 have hall: ∀ k∈q.bad,J4 p.states.length k=0:=fun k hk=>lN hcn _ (List.mem_map.2 ⟨k,hk,rfl⟩)
 have hlb: ∀ k∈q.bad,oL k=false:=fun k hk=>VW (lN (hall k hk) (fE (oL k) 1) (by simp)) (by decide)
 refine⟨fun k hk=>Fe (lN (hall k hk) (jw k.states p.states.length) (by simp)),fun k hk=>?_,fun k hk e=>?_⟩
 ·have:=hlb k hk
  simp only[oL,Bool.or_eq_false_iff,decide_eq_false_iff_not] at this; omega
 ·have:=hlb k hk
  rw[oL,e] at this; simp at this
def oU(c:List Int)(t x:Int):Int:=bif c.getD x.toNat 0==2 then max (t+c.getD x.toNat 0) 3 else t+c.getD x.toNat 0
def GN(c st:List Int):Int:=st.foldl (oU c) 0
def IK(q:Prop')(c:List Int):Bool:=q.bad.all fun k=>decide (k.least<=GN c k.states)
def JW(c:List Int):List Int:=c.map fun x=>bif x==2 then 3 else x
theorem VX{c st:List Int}{i:Nat}(hi:i<st.length):GN c (st.take (i+1))=oU c (GN c (st.take i)) (st.getD i 0):=by
 unfold GN
 rw[List.take_add_one,List.foldl_append]; simp[hi]
theorem aa8{c:List Int}(j:Nat):(JW c).getD j 0=bif c.getD j 0==2 then 3 else c.getD j 0:=by
 unfold JW
 simp only[List.getD_eq_getElem?_getD,List.getElem?_map]
 cases c[j]? <;>rfl
theorem aa9{c:List Int}(hc:Fb 8 c): ∀ (st:List Int) (t u:Int),(0<=t/\0<=u/\(t=u\/(3<=t/\3<=u)))->(st.foldl (oU c) t=u+zV st (JW c)\/(3<=st.foldl (oU c) t/\3<=u+zV st (JW c))):=by
 intro st
 induction st with
 |nil=>intro t u h; show t=u+0\/(3<=t/\3<=u+0); omega
 |cons x st ih =>
  intro t u h
  have hg:=hc.g (by omega) x.toNat
  have hu:=aa8 (c:=c) x.toNat
  have e:zV (x::st) (JW c)=(JW c).getD x.toNat 0+zV st (JW c):=by unfold zV; simp
  rw[List.foldl_cons,e,<- Int.add_assoc]
  refine ih _ _ ?_
  unfold oU
  cases hb:(c.getD x.toNat 0==2) with
  |true =>
   have h2:c.getD x.toNat 0=2:=by simpa using hb
   rw[hb] at hu
   simp only[cond_true] at hu ⊢
   rw[hu]; omega
  |false =>
   rw[hb] at hu
   simp only[cond_false] at hu ⊢
   rw[hu]; omega
theorem abb{n:Nat}{q:Prop'}{c:List Int}(hb:VT n q)(hc:Fb 8 c):IK q c=aa7 q (JW c):=by
 unfold IK aa7
 rw[Bool.eq_iff_iff,List.all_eq_true,List.all_eq_true]
 refine forall_congr' fun k=>forall_congr' fun hk=>?_
 have h1:=aa9 hc k.states 0 0 ⟨by omega,by omega,.inl rfl⟩
 have h2:=hb.least k hk
 rw[decide_eq_true_eq,decide_eq_true_eq]
 unfold GN
 omega
theorem Ym{c:List Int}(hc:Fb 8 c): ∀ (st:List Int) (t:Int),0<=t->0<=st.foldl (oU c) t/\st.foldl (oU c) t<=t+11*st.length:=by
 intro st
 induction st with
 |nil=>intro t h; simp only[List.foldl_nil,List.length_nil]; omega
 |cons x st ih =>
  intro t h
  have hg:=hc.g (by omega) x.toNat
  have hs:0<=oU c t x/\oU c t x<=t+11:=by
   unfold oU
   cases c.getD x.toNat 0==2
   ·simp only[cond_false]; omega
   ·simp only[cond_true]; omega
  have:=ih _ hs.1
  simp only[List.foldl_cons,List.length_cons]; omega
set_option maxHeartbeats 1000000 in
theorem S.vg(q:Prop')(e:Elem)(hq:iW q)(hb:VT e.counts.length q)(hc:Fb 8 e.counts)(_hl:e.counts.length<2^30):aj Tryz.prog 24 [.dat (.prop q),.dat (.elem e)] (.bool (IK q e.counts)):=by
 have q2:=hq.bad
 refine aj.of Bd.vg (by simp) rfl rfl ?_
 conv=>whnf
 refine aI.same [3,11,12] (fun i:Nat=>[(13,.int i)]) (fun i=>i<=q.bad.length/\(q.bad.take i).all (fun k=>decide (k.least<=GN e.counts k.states))=true) (fun i=>q.bad.length-i) 0 rfl (by decide) rfl (fun _=>rfl) ⟨by omega,by simp⟩ ⟨⟨_,rfl,rfl⟩,trivial⟩ ?_
 conv=>whnf
 refine⟨rfl,?_⟩
 rintro i ⟨hi,hall⟩
 conv=>whnf
 refine⟨fun h3=>?_,fun h3=>?_⟩
 ·have hi':i<q.bad.length:=by simpa using h3
  have hk:=getD_mem (d:=default) hi'
  have hpl:=hb.place _ hk
  have hsz:=hq.cnt i
  conv=>whnf
  refine .mk (by simp only[Rw.rng] at *; first|omega|(simp_all; done)|(simp_all; omega)) ?_
  conv=>whnf
  refine aI.same [3,6,11,12,13,18,19] (fun j:Nat=>[(20,.int j),(7,.int (GN e.counts ((q.bad.getD i default).states.take j)))]) (fun j=>j<=(q.bad.getD i default).states.length) (fun j=>(q.bad.getD i default).states.length-j) 0 rfl (by decide) rfl (fun _=>rfl) (Nat.zero_le _) ⟨⟨_,rfl,rfl⟩,⟨_,rfl,rfl⟩,trivial⟩ ?_
  conv=>whnf
  refine⟨rfl,?_⟩
  rintro j hj
  have hs1:0<=GN e.counts ((q.bad.getD i default).states.take j)/\GN e.counts ((q.bad.getD i default).states.take j)<=0+11*((q.bad.getD i default).states.take j).length:=Ym hc _ 0 (Int.le_refl _)
  have hl1:((q.bad.getD i default).states.take j).length<=(q.bad.getD i default).states.length:=by rw[List.length_take]; omega
  conv=>whnf
  refine⟨fun h4=>?_,fun h4=>?_⟩
  ·have hj':j<(q.bad.getD i default).states.length:=by simpa using h4
   have hst:=VX (c:=e.counts) hj'
   have hg:=hc.g (by omega) ((q.bad.getD i default).states.getD j 0).toNat
   obtain⟨p1,p2⟩:=hpl _ (getD_mem (d:=0) hj')
   conv=>whnf
   repeat(refine VC.mk (by first|(simp only[Rw.rng,Int.toNat_natCast]; omega)|(simp only[okI,Int.toNat_natCast] at *; omega)) ?_; conv=>whnf)
   refine⟨fun h6=>?_,fun h6=>?_⟩
   ·replace h6:(e.counts.getD ((q.bad.getD i default).states.getD j 0).toNat 0==2)=true:=h6
    rw[oU,h6] at hst
    conv=>whnf
    refine .mk (by simp only[okI] at *; first|omega|(simp_all; done)|(simp_all; omega)) ?_
    conv=>whnf
    refine⟨j+1,by omega,by omega,⟨⟨_,rfl,rfl⟩,⟨_,rfl,?_⟩,trivial⟩,?_,rfl⟩
    ·rw[hst]; rfl
    ·repeat' (first|exact trivial|exact⟨_,rfl,rfl⟩|constructor)
   ·replace h6:(e.counts.getD ((q.bad.getD i default).states.getD j 0).toNat 0==2)=false:=h6
    rw[oU,h6] at hst
    conv=>whnf
    refine .mk (by simp only[okI] at *; first|omega|(simp_all; done)|(simp_all; omega)) ?_
    conv=>whnf
    refine⟨j+1,by omega,by omega,⟨⟨_,rfl,rfl⟩,⟨_,rfl,?_⟩,trivial⟩,?_,rfl⟩
    ·rw[hst]; rfl
    ·repeat' (first|exact trivial|exact⟨_,rfl,rfl⟩|constructor)
  ·have hj':(q.bad.getD i default).states.length<=j:=by simpa using h4
   rw[List.take_of_length_le hj']
   conv=>whnf
   refine⟨fun h5=>?_,fun h5=>?_⟩
   ·conv=>whnf
    refine ak.bool ?_
    have: ¬ (q.bad.getD i default).least<=GN e.counts (q.bad.getD i default).states:=by
     simp only[Int.toNat_natCast] at h5
     have:=of_decide_eq_true h5; omega
    exact yO (p:=fun k=>decide (k.least<=GN e.counts k.states)) (d:=default) hi' (decide_eq_false this)
   ·conv=>whnf
    refine .mk (by simp only[okI] at *; first|omega|(simp_all; done)|(simp_all; omega)) ?_
    conv=>whnf
    have:(q.bad.getD i default).least<=GN e.counts (q.bad.getD i default).states:=by
     simp only[Int.toNat_natCast] at h5
     have:=of_decide_eq_false h5; omega
    refine⟨i+1,⟨by omega,?_⟩,by omega,⟨⟨_,rfl,rfl⟩,trivial⟩,?_,rfl⟩
    ·rw[AU (d:=default) hi' hall]; exact decide_eq_true this
    ·repeat' (first|exact trivial|exact⟨_,rfl,rfl⟩|constructor)
 ·have hi':q.bad.length<=i:=by simpa using h3
  rw[List.take_of_length_le hi'] at hall
  conv=>whnf
  exact ak.bool hall
noncomputable def sfB(p:aO)(q:Prop'):Bool:=(OD p q 1==0)&& !((jh p q).any fun a=>IK q a.counts)
theorem abd{p:aO}{q:Prop'}{k:Int}(h:OD p q k=0):q.kind=k:=by
 have h0:=Nk h
 unfold OD at h
 cases hb:(q.kind !=k) with
 |true=>rw[hb,h0] at h; exact absurd (show(7:Int)=0 from h) (by decide)
 |false=>simpa using hb
theorem RQ{a:Elem}(h:Ip a):Fb 8 a.counts:=fun v hv=>by
 have h1:=h.ok v hv
 have h2:=List.all_eq_true.1 h.two v hv
 have:v<=2:=by simpa [le2] using h2
 omega
theorem PL{p:aO}{q:Prop'}(h:OD p q 1=0):(jh p q).length<=2187/\(∀ x∈jh p q,OE p x)/\VT p.states.length q:=by
 have h0:=Nk h
 have:=adw p q
 rw[Ur h0] at this
 exact⟨this.1,this.2,Yl (DW h0) (abd h)⟩
theorem S.rU(p:aO)(q:Prop')(hp:fG p)(hq:iW q):aj Tryz.prog 9 [.dat (.kS p),.dat (.prop q)] (.fP [.bool (sfB p q),.int (OD p q 1)]):=by
 refine aj.of Bd.rU (by simp) rfl rfl ?_
 conv=>whnf
 refine ah.pure (S.jL p q 1 hp hq) rfl ?_
 conv=>whnf
 refine⟨fun h1=>?_,fun h1=>?_⟩
 ·conv=>whnf
  rw[sfB,show(OD p q 1==0)=false by simpa using h1]
  exact ak.eqv rfl
 ·have h0:OD p q 1=0:=by simpa using h1
  obtain⟨hl,hs,hb⟩:=PL h0
  conv=>whnf
  refine ah.pure (S.pq p q hp hq (Nk h0)) rfl ?_
  rw[h0]
  conv=>whnf
  refine aI.same [3,17,18] (fun i:Nat=>[(19,.int i)]) (fun i=>i<=(jh p q).length/\((jh p q).take i).any (fun a=>IK q a.counts)=false) (fun i=>(jh p q).length-i) 0 rfl (by decide) rfl (fun _=>rfl) ⟨by omega,by simp⟩ ⟨⟨_,rfl,rfl⟩,trivial⟩ ?_
  conv=>whnf
  refine⟨rfl,?_⟩
  rintro i ⟨hi,hall⟩
  conv=>whnf
  refine⟨fun h3=>?_,fun h3=>?_⟩
  ·have hi':i<(jh p q).length:=by simpa using h3
   have hS:=hs _ (getD_mem (d:=default) hi')
   have h6:=hS.abs.len
   conv=>whnf
   refine .mk (by simp only[Rw.rng] at *; first|omega|(simp_all; done)|(simp_all; omega)) ?_
   conv=>whnf
   refine ah.pure (S.vg q ((jh p q).getD i default) hq (by rw[hS.len]; exact hb) (RQ hS.abs) (by omega)) rfl ?_
   conv=>whnf
   refine⟨fun h4=>?_,fun h4=>?_⟩
   ·conv=>whnf
    rw[sfB,h0,gI (p:=fun a:Elem=>IK q a.counts) (d:=default) hi' h4]
    exact ak.eqv rfl
   ·conv=>whnf
    refine .mk (by simp only[okI] at *; first|omega|(simp_all; done)|(simp_all; omega)) ?_
    conv=>whnf
    refine⟨i+1,⟨by omega,?_⟩,by omega,⟨⟨_,rfl,rfl⟩,trivial⟩,?_,rfl⟩
    ·rw[jE (p:=fun a:Elem=>IK q a.counts) (d:=default) hi' hall]; exact h4
    ·repeat' (first|exact trivial|exact⟨_,rfl,rfl⟩|constructor)
  ·have hi':(jh p q).length<=i:=by simpa using h3
   rw[List.take_of_length_le hi'] at hall
   conv=>whnf
   rw[sfB,h0,hall]
   exact ak.eqv rfl
def CG(l:List Int)(i:Nat):List Int:=JW (l.take i)++l.drop i
theorem Yn(l:List Int)(i:Nat):(CG l i).length=l.length:=by simp[CG,JW]; omega
theorem Yo{l:List Int}{i:Nat}(hi:i<l.length):(CG l i).getD i 0=l.getD i 0:=by
 unfold CG
 have h:(JW (l.take i)).length=i:=by simp[JW]; omega
 rw[List.getD_eq_getElem?_getD,List.getElem?_append_right (by omega),h,Nat.sub_self,List.getElem?_drop]
 simp[List.getD_eq_getElem?_getD]
theorem VY{l:List Int}{i:Nat}(hi:i<l.length):CG l (i+1)=bif l.getD i 0==2 then(CG l i).set i 3 else CG l i:=by
 have e2:l.take (i+1)=l.take i++[l.getD i 0]:=by rw[List.take_add_one]; simp[hi]
 have h:(JW (l.take i)).length=i:=by simp[JW]; omega
 have e3:l.drop i=l.getD i 0::l.drop (i+1):=by rw[List.drop_eq_getElem_cons hi]; simp[hi]
 unfold CG
 cases hb:(l.getD i 0==2) with
 |true =>
  rw[e3,List.set_append_right _ _ (by omega),h,Nat.sub_self,List.set_cons_zero,e2]
  simp only[cond_true,JW,List.map_append,List.map_cons,List.map_nil,hb,List.append_assoc,List.cons_append,List.nil_append]
 |false =>
  rw[e3,e2]
  simp only[cond_false,JW,List.map_append,List.map_cons,List.map_nil,hb,List.append_assoc,List.cons_append,List.nil_append]
theorem Yp(l:List Int):CG l l.length=JW l:=by simp[CG]
theorem adx{l:List Int}(h:Fb 8 l):Fb 8 (JW l):=fun x hx=>by
 obtain⟨y,hy,rfl⟩:=List.mem_map.1 hx
 have:=h y hy
 cases y==2
 ·simpa using this
 ·simp
theorem ae6{p:aO}{q:Prop'}{x:Elem}(hb:VT p.states.length q)(h:OE p x):aa7 q (JW x.counts)=IK q x.counts:=(abb hb (RQ h.abs)).symm
set_option maxHeartbeats 2000000 in
theorem S.vk(p:aO)(q:Prop')(hp:fG p)(hq:iW q):aj Tryz.prog 10 [.dat (.kS p),.dat (.prop q)] (.fP [.bool (sfB p q),.int (OD p q 1)]):=by
 refine aj.of Bd.vk (by simp) rfl rfl ?_
 conv=>whnf
 refine ah.pure (S.uU p q 1 hp hq) rfl ?_
 conv=>whnf
 refine⟨fun h1=>?_,fun h1=>?_⟩
 ·conv=>whnf
  rw[sfB,show(OD p q 1==0)=false by simpa using h1]
  exact ak.eqv rfl
 ·have h0:OD p q 1=0:=by simpa using h1
  obtain⟨hl,hs,hb⟩:=PL h0
  conv=>whnf
  refine ah.pure (S.rQ p q hp hq (Nk h0)) rfl ?_
  rw[h0]
  conv=>whnf
  refine aI.nZ 2 [2,3,7] (fun i:Nat=>[(8,.int i)]) (fun _=>[(0,aa6 p),(1,qw q)]) (fun i=>i<=(jh p q).length/\((jh p q).take i).any (fun a=>IK q a.counts)=false) (fun i=>(jh p q).length-i) 0 [0,1] rfl (by decide) (fun _=>rfl) ⟨by omega,by simp⟩ ?_ ?_ ?_
  ·exact⟨⟨_,rfl,.eq rfl⟩,trivial⟩
  ·exact⟨okF rfl nofun rfl rfl rfl ⟨rfl,rfl⟩ rfl,okF rfl nofun rfl rfl rfl ⟨rfl,rfl⟩ rfl,trivial⟩
  conv=>whnf
  refine⟨⟨⟨_,rfl,.eq rfl⟩,⟨_,rfl,.eq rfl⟩,⟨_,rfl,.eq rfl⟩,trivial⟩,rfl,?_⟩
  rintro i ⟨hi,hall⟩
  conv=>whnf
  refine⟨fun h3=>?_,fun h3=>?_⟩
  ·have hi':i<(jh p q).length:=by simpa using h3
   have hS:=hs _ (getD_mem (d:=default) hi')
   have h6:=hS.abs.len
   conv=>whnf
   refine .mk (by simp only[Rw.rng] at *; first|omega|(simp_all; done)|(simp_all; omega)) ?_
   conv=>whnf
   refine ah.heap (qY.frame (S.AA ((jh p q).getD i default) (by omega)) _ _) ?_
   rintro t hp' ⟨rfl,rfl⟩
   refine⟨.agg [.int ((jh p q).getD i default).value,.own 10],(10,some (vZ ((jh p q).getD i default).counts))::_,rfl,GY,?_⟩
   conv=>whnf
   generalize hx:(jh p q).getD i default=x at hS h6 ⊢
   have hlen:=hS.len
   have hnn:=RQ hS.abs
   refine aI.nZ 4 [2,3,7,8] (fun y:Nat=>[(10,.int y),(9,.ptr 3 0 0)]) (fun y=>[(0,aa6 p),(1,qw q),(2,vZ (CG x.counts y)),(3,.box 54 3 (.agg [.int x.value,.own 2]))]) (fun y=>y<=x.counts.length) (fun y=>x.counts.length-y) 0 [0,1,10,11] rfl (by decide) (fun _=>rfl) (Nat.zero_le _) ?_ ?_ ?_
   ·exact⟨⟨_,rfl,.eq rfl⟩,⟨_,rfl,.eq rfl⟩,trivial⟩
   ·exact⟨okF rfl nofun rfl rfl rfl ⟨rfl,rfl⟩ rfl,okF rfl nofun rfl rfl rfl ⟨rfl,rfl⟩ rfl,okF rfl nofun rfl rfl rfl ⟨rfl,rfl⟩ rfl,⟨rfl,nofun,rfl,rfl,_,rfl,rfl,rfl,dN.of_eq rfl⟩,trivial⟩
   conv=>whnf
   refine⟨⟨⟨_,rfl,.eq rfl⟩,⟨_,rfl,.eq rfl⟩,⟨_,rfl,.eq rfl⟩,⟨_,rfl,.eq rfl⟩,trivial⟩,rfl,?_⟩
   rintro y hy
   have hul:=Yn x.counts y
   conv=>whnf
   refine⟨fun g1=>?_,fun g1=>?_⟩
   ·have hy':y<x.counts.length:=by
     have:(y:Int)<((CG x.counts y).length:Int):=of_decide_eq_true g1
     omega
    have hg:=Yo hy'
    have hn:=VY hy'
    conv=>whnf
    repeat(refine VC.mk (by first|(simp only[Rw.rng,Int.toNat_natCast]; omega)|(simp only[okI,Int.toNat_natCast] at *; omega)) ?_; conv=>whnf)
    refine⟨fun g2=>?_,fun g2=>?_⟩
    ·replace g2:((CG x.counts y).getD y 0==2)=true:=g2
     rw[hg] at g2
     rw[g2] at hn
     conv=>whnf
     repeat(refine VC.mk (by first|(simp only[Rw.rng,Int.toNat_natCast]; omega)|(simp only[okI] at *; omega)) ?_; conv=>whnf)
     refine⟨y+1,[0,1,2,3],by omega,by omega,⟨⟨_,rfl,.eq rfl⟩,⟨_,rfl,.eq rfl⟩,trivial⟩,⟨⟨_,rfl,.eq rfl⟩,⟨_,rfl,.eq rfl⟩,⟨_,rfl,.eq rfl⟩,⟨_,rfl,.eq rfl⟩,trivial⟩,okF rfl nofun rfl rfl rfl ⟨rfl,rfl⟩ rfl,okF rfl nofun rfl rfl rfl ⟨rfl,rfl⟩ rfl,okF rfl nofun rfl rfl rfl ⟨rfl,rfl⟩ ?_,⟨rfl,nofun,rfl,rfl,_,rfl,rfl,rfl,dN.of_eq rfl⟩,trivial⟩
     rw[hn]; rfl
    ·replace g2:((CG x.counts y).getD y 0==2)=false:=g2
     rw[hg] at g2
     rw[g2] at hn
     conv=>whnf
     refine .mk (by simp only[okI] at *; first|omega|(simp_all; done)|(simp_all; omega)) ?_
     conv=>whnf
     refine⟨y+1,[0,1,2,3],by omega,by omega,⟨⟨_,rfl,.eq rfl⟩,⟨_,rfl,.eq rfl⟩,trivial⟩,⟨⟨_,rfl,.eq rfl⟩,⟨_,rfl,.eq rfl⟩,⟨_,rfl,.eq rfl⟩,⟨_,rfl,.eq rfl⟩,trivial⟩,okF rfl nofun rfl rfl rfl ⟨rfl,rfl⟩ rfl,okF rfl nofun rfl rfl rfl ⟨rfl,rfl⟩ rfl,okF rfl nofun rfl rfl rfl ⟨rfl,rfl⟩ (by rw[hn]; rfl),⟨rfl,nofun,rfl,rfl,_,rfl,rfl,rfl,dN.of_eq rfl⟩,trivial⟩
   ·have hy':y=x.counts.length:=by
     have: ¬ ((y:Int)<((CG x.counts y).length:Int)):=of_decide_eq_false g1
     omega
    subst hy'
    rw[Yp]
    have hu3:(JW x.counts).length=x.counts.length:=by simp[JW]
    conv=>whnf
    refine ah.lend (S.lM q (JW x.counts) false hq (by rw[hu3,hlen]; exact hb) (adx hnn) (by rw[hu3]; omega)) (And.intro (dP _) (And.intro (F8 trivial rfl) trivial)) rfl rfl ?_
    rw[ae6 hb hS]
    conv=>whnf
    refine⟨fun h4=>?_,fun h4=>?_⟩
    ·conv=>whnf
     rw[sfB,h0,gI (p:=fun a:Elem=>IK q a.counts) (d:=default) hi' (by rw[hx]; exact h4)]
     exact ak.eqv rfl
    ·conv=>whnf
     refine .mk (by simp only[okI] at *; first|omega|(simp_all; done)|(simp_all; omega)) ?_
     conv=>whnf
     refine⟨i+1,[0,1],⟨by omega,?_⟩,by omega,⟨⟨_,rfl,.eq rfl⟩,trivial⟩,⟨⟨_,rfl,.eq rfl⟩,⟨_,rfl,.eq rfl⟩,⟨_,rfl,.eq rfl⟩,trivial⟩,okF rfl nofun rfl rfl rfl ⟨rfl,rfl⟩ rfl,okF rfl nofun rfl rfl rfl ⟨rfl,rfl⟩ rfl,trivial⟩
     rw[jE (p:=fun a:Elem=>IK q a.counts) (d:=default) hi' hall,hx]; exact h4
  ·have hi':(jh p q).length<=i:=by simpa using h3
   rw[List.take_of_length_le hi'] at hall
   conv=>whnf
   rw[sfB,h0,hall]
   exact ak.eqv rfl
end Go.Proofs.YtajmbgljnaljiaaGreatDoor
