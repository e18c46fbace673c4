/-
 What is met is what can be reached: plain laws. No condition.
-/
import Derived.Test.YtajmbgljnaljiaaGreatDoorAc
import Derived.Test.YtajmbgljnaljiaaGreatDoorBc
namespace Go.Proofs.YtajmbgljnaljiaaGreatDoor
open Go.Ab Go.Proofs
set_option maxRecDepth 100000
theorem abp{a:Elem}{l:List Elem}:Q7 a l=true↔a∈l:=by
 unfold Q7
 rw[List.any_eq_true]
 constructor
 ·rintro⟨b,hb,h⟩
  rw[beq_iff_eq,iP] at h
  rw[h]; exact hb
 ·intro h; exact⟨a,h,by rw[beq_iff_eq,iP]⟩
theorem Nj{q:Prop'}: ∀ {l out:List Elem},out.Nodup->(fK q out l).Nodup:=by
 intro l
 induction l with
 |nil=>intro out h; exact h
 |cons a l ih =>
  intro out h
  refine ih (out:=mD q out a) ?_
  unfold mD
  split
  ·rename_i hk
   rw[Bool.and_eq_true,Bool.not_eq_true'] at hk
   refine List.nodup_append.2 ⟨h,List.nodup_cons.2 ⟨nofun,List.nodup_nil⟩,fun x hx y hy=>?_⟩
   rw[List.mem_singleton] at hy
   subst hy
   rintro rfl
   rw[abp.2 hx] at hk
   exact absurd hk.1 (by decide)
  ·exact h
theorem IV{q:Prop'}: ∀ {l out:List Elem},∃ t,fK q out l=out++t:=by
 intro l
 induction l with
 |nil=>intro out; exact⟨[],by simp[fK]⟩
 |cons a l ih =>
  intro out
  obtain⟨t,ht⟩:=ih (out:=mD q out a)
  have h1: ∃ u,mD q out a=out++u:=by
   unfold mD
   split
   ·exact⟨[a],rfl⟩
   ·exact⟨[],by simp⟩
  obtain⟨u,hu⟩:=h1
  refine⟨u++t,?_⟩
  show fK q (mD q out a) l=_
  rw[ht,hu,List.append_assoc]
theorem IW{q:Prop'}{l out:List Elem}{i:Nat}(hi:i<out.length):(fK q out l).getD i default=out.getD i default:=by
 obtain⟨t,ht⟩:=IV (q:=q) (l:=l) (out:=out)
 rw[ht,List.getD_eq_getElem?_getD,List.getElem?_append_left hi,List.getD_eq_getElem?_getD]
theorem VY{q:Prop'}{l out:List Elem}:out.length<=(fK q out l).length:=by
 obtain⟨t,ht⟩:=IV (q:=q) (l:=l) (out:=out)
 rw[ht,List.length_append]; omega
structure zW(p:aH)(q:Prop')(out:List Elem)(i:Nat):Prop where
 nd:out.Nodup
 rc: ∀ x∈out,IU p q x
 ini: ∀ x∈qY p q,mP q x=true->x∈out
 cl: ∀ j,j<i-> ∀ r∈p.rules,∀ y∈jL r (out.getD j default),mP q y=true->y∈out
 le:i<=out.length
theorem zW.zero(p:aH)(q:Prop'):zW p q (fK q [] (qY p q)) 0 :=
 ⟨Nj List.nodup_nil,fun x hx=>by
  rcases pI.1 hx with h|⟨h,g⟩
  ·cases h
  ·exact .ini h g,fun x hx hl=>pI.2 (.inr ⟨hx,hl⟩),fun j hj=>by omega,Nat.zero_le _⟩
structure Nk(p:aH)(q:Prop')(i:Nat)(x:Elem)(out:List Elem)(k:Nat):Prop where
 inv:zW p q out i
 lt:i<out.length
 at':out.getD i default=x
 kl:k<=p.rules.length
 cl: ∀ j,j<k-> ∀ y∈jL (p.rules.getD j default) x,mP q y=true->y∈out
theorem Nk.zero{p:aH}{q:Prop'}{out:List Elem}{i:Nat}(h:zW p q out i)(hi:i<out.length):Nk p q i (out.getD i default) out 0 :=
 ⟨h,hi,rfl,Nat.zero_le _,fun j hj=>by omega⟩
theorem Nk.next{p:aH}{q:Prop'}{out:List Elem}{i k:Nat}{x:Elem}(h:Nk p q i x out k)(hk:k<p.rules.length):Nk p q i x (fK q out (jL (p.rules.getD k default) x)) (k+1):=by
 have hle:=VY (q:=q) (l:=jL (p.rules.getD k default) x) (out:=out)
 have hlt:=h.lt
 have hx:x∈out:=by rw[<- h.at']; exact eY h.lt
 refine⟨⟨Nj h.inv.nd,fun y hy=>?_,fun y hy hl=>pI.2 (.inl (h.inv.ini y hy hl)),fun j hj r hr y hy hl=>?_,by omega⟩,by omega,?_,hk,fun j hj y hy hl=>?_⟩
 ·rcases pI.1 hy with g|⟨g,gl⟩
  ·exact h.inv.rc y g
  ·exact .Yu (h.inv.rc x hx) (eY hk) g gl
 ·rw[IW (by omega)] at hy
  exact pI.2 (.inl (h.inv.cl j hj r hr y hy hl))
 ·rw[IW h.lt]; exact h.at'
 ·refine pI.2 ?_
  rcases Nat.lt_or_ge j k with g|g
  ·exact .inl (h.cl j g y hy hl)
  ·have:j=k:=by omega
   subst this
   exact .inr ⟨hy,hl⟩
theorem Nk.all{p:aH}{q:Prop'}{out:List Elem}{i k:Nat}{x:Elem}(h:Nk p q i x out k)(hk:p.rules.length<=k):zW p q out (i+1):=by
 refine⟨h.inv.nd,h.inv.rc,h.inv.ini,fun j hj r hr y hy hl=>?_,h.lt⟩
 rcases Nat.lt_or_ge j i with g|g
 ·exact h.inv.cl j g r hr y hy hl
 ·have:j=i:=by omega
  subst this
  rw[h.at'] at hy
  obtain⟨n,hn,e⟩:=List.mem_iff_getElem.1 hr
  have e2:p.rules.getD n default=r:=by rw[List.getD_eq_getElem?_getD,List.getElem?_eq_getElem hn]; exact e
  exact h.cl n (by omega) y (by rw[e2]; exact hy) hl
theorem zW.done{p:aH}{q:Prop'}{out:List Elem}{i:Nat}(h:zW p q out i)(hi:out.length<=i)(x:Elem):x∈out↔IU p q x:=by
 refine⟨h.rc x,fun hx=>?_⟩
 induction hx with
 |ini hx hl=>exact h.ini _ hx hl
 |Yu _ hr hy hl ih =>
  obtain⟨n,hn,e⟩:=List.mem_iff_getElem.1 ih
  refine h.cl n (by omega) _ hr _ ?_ hl
  rw[List.getD_eq_getElem?_getD,List.getElem?_eq_getElem hn,Option.getD_some,e]; exact hy
theorem zW.st{p:aH}{q:Prop'}(hc:CX p=0){out:List Elem}{i:Nat}(h:zW p q out i): ∀ x∈out,Pz p x:=fun x hx=>(h.rc x hx).st hc
theorem FU{r:Rule}{a:Elem}(h:Tt a):(jL r a).length<=729:=by
 have h1:=TA (uj r (lF a.value (iK a.counts)))
 have h2:=Dn (r:=r) (l:=lF a.value (iK a.counts))
 have h3:(lF a.value (iK a.counts)).length<=729:=JX (ru (MS a.counts) a.counts.length) (by rw[lX]; exact h.len)
 unfold jL; omega
theorem VZ{p:aH}{q:Prop'}(hst:p.states.length<=6):(qY p q).length<=729:=by
 unfold qY initK
 rw[List.length_map]
 have h1:=List.length_filter_le (YP p q) (allM 2 p.states.length)
 rw[sG] at h1
 have h3:(2+1)^p.states.length<=3^6:=Nat.pow_le_pow_right (by decide) hst
 have h36:3^6=729:=by decide
 omega
theorem zW.len{p:aH}{q:Prop'}(hp:gq p)(hc:CX p=0){out:List Elem}{i:Nat}(h:zW p q out i):out.length<=(zC p).length/\(zC p).length<=764411904:=Tz hp hc h.nd (h.st hc)
theorem zW.small{p:aH}{q:Prop'}(hc:CX p=0){out:List Elem}{i:Nat}(h:zW p q out i):eU out:=fun x hx=>by
 have:=(h.st hc x hx).abs.len; omega
noncomputable def dS(p:aH)(q:Prop'):List Elem:=qI ((zC p).filter fun x=>@decide (IU p q x) (Classical.propDecidable _))
theorem wO{p:aH}{q:Prop'}(hc:CX p=0){x:Elem}:x∈dS p q↔IU p q x:=by
 unfold dS
 rw[rO,List.mem_filter]
 constructor
 ·rintro⟨_,h⟩; exact @of_decide_eq_true _ (Classical.propDecidable _) h
 ·intro h; exact⟨(h.st hc).univ,@decide_eq_true _ (Classical.propDecidable _) h⟩
theorem yT{p:aH}{q:Prop'}(hc:CX p=0){l:List Elem}(hs:SS l)(h: ∀ x,x∈l↔IU p q x):l=dS p q :=
 IK hs (qJ _) fun x=>by rw[h]; exact(wO hc).symm
theorem YU{Z:Nat->Prop}{h:Hp}{k:Nat}:T.sub Z h (V.row k false (.elems [])).aF (V.row 0 true .nil).aF:=by
 simp only[V.aF]; exact⟨.inl rfl,.inr rfl,fun h=>by cases h⟩
abbrev YV(p:aH):OV:=.box 27 11 (.dat (.mJ p))
abbrev acW(p:aH)(q:Prop')(out:List Elem):List (Nat×OV):=[(0,YV p),(1,nX q),(3,zq 4),(4,iW out)]
set_option maxHeartbeats 2000000 in
theorem S.sJ(p:aH)(q:Prop')(hp:gq p)(hq:jO q)(hv:uI p q=0):au Tryz.prog 23 [.dat (.mJ p),.dat (.prop q)] (.row 3 false (.elems (dS p q))):=by
 have hc:=wL hv
 have hst:=(oC (iV (ou hc)).1).states
 have aeZ:=VZ (q:=q) hst
 have hz:=zW.zero p q
 have hrl:=hp.rules
 refine au.of Bd.sJ (by simp) rfl rfl ?_
 conv=>whnf
 refine ah.pure (S.oG p q hp hq (A8 hv)) rfl ?_
 rw[abm]
 conv=>whnf
 have hsi:eU (qY p q):=fun x hx=>by have:=(Pz.ini hc hx).abs.len; omega
 refine ah.VW (q:=q) (l:=qY p q) hq (by omega) hsi rfl rfl (by decide) rfl (fun h0=>?_) (fun x o hm=>?_)
 ·conv=>whnf
  refine aP.times 1 rfl ?_
  conv=>whnf
  refine Fork.mk (fun q=>absurd (q.symm.trans ((rfl:decide ((0:Int)<0)=false))).symm Bool.false_ne_true) (fun _=>?_)
  conv=>whnf
  refine ah.pure (S.Py) rfl ?_
  conv=>whnf
  rw[h0] at hz
  rw[<- yT hc (l:=[]) (by simp[SS]) (hz.done (Nat.le_refl _))]
  exact⟨YU⟩
 ·rw[hm] at hz
  generalize ho:x::o=o1 at hz ⊢
  clear ho hm
  conv=>whnf
  refine aP.xE 5 [2,3,5,6] (fun s:List Elem×Nat=>[(7,.int s.2)]) (fun s=>acW p q s.1) (fun s=>zW p q s.1 s.2) (fun s=>(zC p).length-s.2) (o1,0) [0,1,3,10] rfl (by decide) (fun _=>rfl) hz ?_ ?_ ?_
  ·exact(sR rfl)
  ·exact⟨cu rfl rfl,cu rfl rfl,nV rfl rfl rfl ⟨rfl,rfl⟩ (dL.of_eq rfl),cu rfl rfl,trivial⟩
  conv=>whnf
  refine⟨(sR rfl),rfl,?_⟩
  rintro⟨out,i⟩ hI
  obtain⟨hU1,hU2⟩:=hI.len hp hc
  have hle:=hI.le
  have hso:=hI.small hc
  simp only at hU1 hle hso ⊢
  conv=>whnf
  refine⟨fun h1=>?_,fun h1=>?_⟩
  ·have hi:i<out.length:=by simpa using h1
   conv=>whnf
   refine aP.xE 5 [2,3,5,6,7,23,24] (fun s:List Elem×Nat=>[(25,.int s.2)]) (fun s=>acW p q s.1) (fun s=>Nk p q i (out.getD i default) s.1 s.2) (fun s=>p.rules.length-s.2) (out,0) [0,1,3,4] rfl (by decide) (fun _=>rfl) (.zero hI hi) ?_ ?_ ?_
   ·exact(sR rfl)
   ·exact⟨cu rfl rfl,cu rfl rfl,nV rfl rfl rfl ⟨rfl,rfl⟩ (dL.of_eq rfl),cu rfl rfl,trivial⟩
   conv=>whnf
   refine⟨(sR rfl),rfl,?_⟩
   rintro⟨o2,k⟩ hM
   obtain⟨hV1,_⟩:=hM.inv.len hp hc
   have hs2:=hM.inv.small hc
   have hlt:=hM.lt
   have hat:=hM.at'
   have hSt:=hM.inv.st hc _ (eY (d:=default) hlt)
   simp only at hV1 hs2 hlt hat hSt ⊢
   conv=>whnf
   refine⟨fun h2=>?_,fun h2=>?_⟩
   ·have hk:k<p.rules.length:=by simpa using h2
    have hnx:=hM.next hk
    simp only at hnx
    conv=>whnf
    repeat(refine VC.mk (by simp only[Rw.rng] at *; first|omega|(simp_all; done)|(simp_all; omega)) ?_; conv=>whnf)
    have hpl:zQ (o2.getD i default).counts.length (p.rules.getD k default):=by rw[hSt.len]; exact(wtR hc hk).place
    refine ah.pure (S.pF (p.rules.getD k default) (o2.getD i default) (hp.rule k) hpl hSt.abs.ok hSt.abs.pos hSt.abs.len) rfl ?_
    have hpo:=FU (r:=p.rules.getD k default) hSt.abs
    have hsp:eU (jL (p.rules.getD k default) (o2.getD i default)):=fun y hy=>by rw[IX hy]; have:=hSt.abs.len; omega
    conv=>whnf
    refine ah.VU (q:=q) (out:=o2) (l:=jL (p.rules.getD k default) (o2.getD i default)) hq (by omega) hs2 hsp rfl rfl rfl (by decide) (by decide) (by decide) rfl ?_
    conv=>whnf
    refine .mk (by simp only[okI] at *; first|omega|(simp_all; done)|(simp_all; omega)) ?_
    conv=>whnf
    refine⟨(fK q o2 (jL (p.rules.getD k default) (o2.getD i default)),k+1),[0,1,3,17],by rw[hat]; exact hnx,by simp only; omega,(sR rfl),(sR rfl),cu rfl rfl,cu rfl rfl,nV rfl rfl rfl ⟨rfl,rfl⟩ (dL.of_eq rfl),cu rfl rfl,trivial⟩
   ·have hk:p.rules.length<=k:=by simpa using h2
    conv=>whnf
    refine .mk (by simp only[okI] at *; first|omega|(simp_all; done)|(simp_all; omega)) ?_
    conv=>whnf
    refine⟨(o2,i+1),[0,1,3,4],hM.all hk,by simp only; omega,(sR rfl),(sR rfl),cu rfl rfl,cu rfl rfl,nV rfl rfl rfl ⟨rfl,rfl⟩ (dL.of_eq rfl),cu rfl rfl,trivial⟩
  ·have hi:out.length<=i:=by simpa using h1
   conv=>whnf
   refine ah.VK rfl rfl (by omega) hso ?_ (fun m=>?_)
   ·rw[yT hc (qJ out) (fun x=>(rO out x).trans (hI.done hi x))]
    conv=>whnf
    exact aG.abh rfl
   ·rw[yT hc (qJ out) (fun x=>(rO out x).trans (hI.done hi x))]
    conv=>whnf
    exact aG.abj rfl
end Go.Proofs.YtajmbgljnaljiaaGreatDoor
namespace Go.Proofs.YtajmbgljnaljiaaGreatDoor
open Go.Ab Go.Proofs
set_option maxRecDepth 100000
theorem V3{l:List Elem}(h:SS l):l.Nodup:=by
 unfold SS at h
 refine h.imp fun {a b} hab e=>?_
 have h0:gW a b=0:=by rw[iP]; exact e
 omega
theorem PD{p:aH}{l:List Elem}(hc:CX p=0)(hn:l.Nodup)(hs: ∀ x∈l,Pz p x):l.length<=2187:=by
 have hv:=oC (iV (ou hc)).1
 have h1:=Nh hn fun x hx=>(hs x hx).univ
 rw[IQ] at h1
 have h3:3^p.states.length<=3^6:=Nat.pow_le_pow_right (by decide) hv.states
 have hva:=hv.values
 have h2:max 1 p.values.length<=3:=by omega
 exact Nat.le_trans h1 (Nat.le_trans (Nat.mul_le_mul h2 h3) (by decide))
structure ae0(p:aH)(q:Prop')(T O:List Elem)(i:Nat):Prop where
 ss:SS O
 rc: ∀ x∈O,IU p q x
 gen: ∀ x∈T,x∈qY p q\/ ∃ y r,IU p q y/\r∈p.rules/\x∈jL r y
 ini: ∀ x∈qY p q,x∈T
 dn: ∀ j,j<i->mP q (T.getD j default)=true->T.getD j default∈O
 cl: ∀ x∈O,∀ r∈p.rules,∀ y∈jL r x,y∈T
 le:i<=T.length
 tl:T.length<=729+O.length*5832
end Go.Proofs.YtajmbgljnaljiaaGreatDoor
namespace Go.Proofs.YtajmbgljnaljiaaGreatDoor
open Go.Ab Go.Proofs
set_option maxRecDepth 100000
theorem zX{p:aH}{q:Prop'}{k:Int}(h:Ew p q k=0):uI p q=0:=by
 unfold Ew at h
 cases hb:(uI p q==0)&&(q.kind !=k) with
 |true=>rw[hb] at h; exact absurd (show(7:Int)=0 from h) (by decide)
 |false=>rw[hb] at h; exact h
noncomputable def rcL(p:aH)(q:Prop'):List Elem:=@ite _ (uI p q=0) (Classical.propDecidable _) (dS p q) []
theorem abq{p:aH}{q:Prop'}(h:uI p q≠0):rcL p q=[]:=if_neg h
theorem J6{p:aH}{q:Prop'}(h:uI p q=0):rcL p q=dS p q:=if_pos h
theorem V4(p:aH)(q:Prop'):(rcL p q).length<=2187/\ ∀ x∈rcL p q,Pz p x:=by
 by_cases h:uI p q=0
 ·have hc:=wL h
  rw[J6 h]
  have hs: ∀ x∈dS p q,Pz p x:=fun x hx=>((wO hc).1 hx).st hc
  exact⟨PD hc (V3 (qJ _)) hs,hs⟩
 ·rw[abq h]; exact⟨by decide,fun x hx=>by cases hx⟩
structure ae1(n:Nat)(q:Prop'):Prop where
 place: ∀ k∈q.bad,su n k.states
 least: ∀ k∈q.bad,1<=k.least/\k.least<=3
 some: ∀ k∈q.bad,k.states≠[]
end Go.Proofs.YtajmbgljnaljiaaGreatDoor
namespace Go.Proofs.YtajmbgljnaljiaaGreatDoor
open Go.Ab Go.Proofs
set_option maxRecDepth 100000
theorem Rf{p:aH}{q:Prop'}{k:Int}(h:Ew p q k=0):q.kind=k:=by
 have h0:=zX h
 unfold Ew at h
 cases hb:(q.kind !=k) with
 |true=>rw[hb,h0] at h; exact absurd (show(7:Int)=0 from h) (by decide)
 |false=>simpa using hb
end Go.Proofs.YtajmbgljnaljiaaGreatDoor
