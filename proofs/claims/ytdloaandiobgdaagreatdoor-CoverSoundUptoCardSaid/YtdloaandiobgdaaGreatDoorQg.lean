/-
 Steps of configurations and of elements answer the same: the plain law. No condition.
-/
import Derived.Test.YtdloaandiobgdaaGreatDoorQf
namespace Go.Proofs.YtdloaandiobgdaaGreatDoor
open Go.Ab Go.Proofs
set_option maxRecDepth 100000
def BD(r:Rule)(e:Elem):Bool:=decide (0<=r.read)&&e.value !=r.read||e.counts.getD r.fr.toNat 0==0
def Qb(r:Rule)(e:Elem)(c:List Int):Elem:=⟨bif decide (0<=r.write) then r.write else e.value,aV c r.to 1⟩
theorem ak6{r:Rule}{e:Elem}(h:BD r e=false)(hk:r.kind=1):IX r e=bif !(oW r (jc e.counts r.fr)) then none else some (Qb r e (jc e.counts r.fr)):=by
 unfold IX;rw[show(decide (0<=r.read)&&e.value !=r.read||e.counts.getD r.fr.toNat 0==0)=false from h,hk]; rfl
theorem ak7{r:Rule}{e:Elem}(h:BD r e=false)(hk:r.kind=2):IX r e=bif (jc e.counts r.fr).getD r.dQ.toNat 0==0 then none else some (Qb r e (aV (jc (jc e.counts r.fr) r.dQ) r.yT 1)):=by
 unfold IX;rw[show(decide (0<=r.read)&&e.value !=r.read||e.counts.getD r.fr.toNat 0==0)=false from h,hk]; rfl
theorem ak8{r:Rule}{e:Elem}(h:BD r e=false)(hk:r.kind=3):IX r e=some (Qb r e (xP r (jc e.counts r.fr) (jc e.counts r.fr).length)):=by
 unfold IX;rw[show(decide (0<=r.read)&&e.value !=r.read||e.counts.getD r.fr.toNat 0==0)=false from h,hk]; rfl
section
variable {p:aF} {c:mF} {r:Rule}
theorem aiF(hs: ∀ x∈c.states,0<=x/\x<p.states.length)(hfr:0<=r.fr/\r.fr<p.states.length):BD r (pU p c)=false↔(decide (0<=r.read)&&c.value !=r.read)=false/\ ∃ w,w<c.states.length/\c.states.getD w 0=r.fr:=by
 unfold BD;rw[bk];refine and_congr Iff.rfl ?_;show((kN p.states.length c.states).getD r.fr.toNat 0==0)=false↔_;rw[A8 hs (by omega),cE];have e:((r.fr.toNat:Nat):Int)=r.fr:=by omega
 rw[e];constructor
 ·intro h
  have:r.fr∈c.states:=List.count_pos_iff.1 (by omega)
  obtain⟨w,hw,e⟩:=dt this;exact⟨w,hw,by rw[getD_some hw]; exact e⟩
 ·rintro⟨w,hw,e⟩ h
  have:r.fr∈c.states:=by rw[<- e,getD_some hw]; exact bh hw
  have:=List.count_pos_iff.2 this;omega
def atB(r:Rule)(c:mF)(w:Nat):Bool:=(c.states.getD w 0 !=r.fr)||(decide (0<=r.read)&&c.value !=r.read)
theorem amP{w:Nat}{o:Int}:enR r c w o=bif atB r c w then false else bif r.kind==2 then !(decide (o<0)||decide ((c.states.length:Int)<=o)||o==w||c.states.getD o.toNat 0 !=r.dQ) else bif o != -1 then false else bif r.kind==1 then acT r c.states w else true:=rfl
theorem ak9{w:Nat}:atB r c w=false↔(decide (0<=r.read)&&c.value !=r.read)=false/\c.states.getD w 0=r.fr:=by
 unfold atB;rw[bk,gL];exact And.comm
theorem Qc{w:Nat}{o:Int}{l:List Int}(h:FM r c.states w o=l):pU p (BH r c w o)=⟨bif decide (0<=r.write) then r.write else c.value,kN p.states.length l⟩:=by
 unfold pU BH; rw[h]
theorem amQ{w:Nat}{o:Int}(hs: ∀ x∈c.states,0<=x/\x<p.states.length)(hk:r.kind=1)(hw:w<c.states.length)(hf:c.states.getD w 0=r.fr)(hp:EG p.states.length r):pU p (BH r c w o)=Qb r (pU p c) (jc (pU p c).counts r.fr):=by
 rw[Qc (l:=c.states.set w r.to) (by unfold FM; rw[hk]; rfl),P9 hs hw hf hp.dst]; rfl
theorem amR{w:Nat}{o:Int}(hs: ∀ x∈c.states,0<=x/\x<p.states.length)(hk:r.kind=3)(hw:w<c.states.length)(hf:c.states.getD w 0=r.fr)(hp:EG p.states.length r):pU p (BH r c w o)=Qb r (pU p c) (xP r (jc (pU p c).counts r.fr) (jc (pU p c).counts r.fr).length):=by
 rw[Qc (l:=Iu r c.states w (c.states.set w r.to) c.states.length) (by unfold FM; rw[hk]; rfl),aiE hs hw hf hp.dst (hp.rsp hk).1 (hp.rsp hk).2]; rfl
theorem amS{w o:Nat}(hs: ∀ x∈c.states,0<=x/\x<p.states.length)(hk:r.kind=2)(hw:w<c.states.length)(hf:c.states.getD w 0=r.fr)(ho:o<c.states.length)(hne:o≠w)(hg:c.states.getD o 0=r.dQ)(hp:EG p.states.length r):pU p (BH r c w o)=Qb r (pU p c) (aV (jc (jc (pU p c).counts r.fr) r.dQ) r.yT 1):=by
 rw[Qc (l:=(c.states.set w r.to).set o r.yT) (by unfold FM; rw[hk]; rfl)];have hg':(c.states.set w r.to).getD o 0=r.dQ:=by rw[JV,bB (fun h=>hne h.1)]; exact hg
 rw[P9 (Gl hs hp.dst) (by simpa using ho) hg' hp.ajK,P9 hs hw hf hp.dst];unfold Qb
 congr 1
 show aV (jc (aV (jc (kN p.states.length c.states) r.fr) r.to 1) r.dQ) r.yT 1=aV (aV (jc (jc (kN p.states.length c.states) r.fr) r.dQ) r.yT 1) r.to 1;have hl: ∀ a:List Int,∀ i d,(aV a i d).length=a.length:=fun a i d=>BO
 refine eW (by simp[hl,I9]) fun q h1 h2=>?_
 have e1:=getD_some (d:=(0:Int)) h1;have e2:=getD_some (d:=(0:Int)) h2;rw[<- e1,<- e2];simp only[I9,qR,hl];split<;>split<;>split<;>split<;>simp_all<;>omega
theorem aiG{w:Nat}{o:Int}(hs: ∀ x∈c.states,0<=x/\x<p.states.length)(hr:N9 p.states.length p r)(hw:w<c.states.length)(he:enR r c w o=true):IX r (pU p c)=some (pU p (BH r c w o)):=by
 rw[amP] at he;cases h1:atB r c w with
 |true=>rw[h1] at he; cases he
 |false =>
  rw[h1,ap] at he;obtain⟨h2,h3⟩:=ak9.1 h1;have hoff:=(aiF hs hr.place.src).2 ⟨h2,w,hw,h3⟩;rcases hr.kind with hk|hk|hk
  ·rw[hk] at he;replace he:(bif o != -1 then false else acT r c.states w)=true:=he;cases h4:(o != -1) with
   |true=>rw[h4] at he; cases he
   |false =>
    rw[h4,ap,acW hs hw h3] at he;rw[ak6 hoff hk,show oW r (jc (pU p c).counts r.fr)=true from he,amQ hs hk hw h3 hr.place]; rfl
  ·rw[hk] at he;replace he:(!(decide (o<0)||decide ((c.states.length:Int)<=o)||o==w||c.states.getD o.toNat 0 !=r.dQ))=true:=he;simp only[bq,bk,bA,cE,gL] at he;obtain⟨⟨⟨o1,o2⟩,o3⟩,o4⟩:=he;obtain⟨j,rfl⟩: ∃ j:Nat,o=j:=⟨o.toNat,by omega⟩
   rw[bN] at o4;have hq:((jc (kN p.states.length c.states) r.fr).getD r.dQ.toNat 0==0)=false:=(UQ hs hw h3 (by have:=hr.place.agS; omega)).2 ⟨j,by omega,by omega,by rw[o4]; have:=hr.place.agS; omega⟩;rw[ak7 hoff hk,show((jc (pU p c).counts r.fr).getD r.dQ.toNat 0==0)=false from hq,amS hs hk hw h3 (by omega) (by omega) o4 hr.place]; rfl
  ·rw[ak8 hoff hk,amR hs hk hw h3 hr.place]
end
theorem afT{p:aF}{c:mF}{n:Nat}{t:Nat×Nat×Nat}:t∈s1 p c n↔t.1<n/\t.2.1<c.states.length/\t.2.2<c.states.length+1/\enT p c t=true:=by
 obtain⟨k,w,o⟩:=t;simp only[s1,s2,s3,cX,cD,eE,ax,fe];constructor
 ·rintro⟨k',h1,w',h2,⟨o',h3,rfl,rfl,rfl⟩,h4⟩; exact⟨h1,h2,h3,h4⟩
 ·rintro⟨h1,h2,h3,h4⟩; exact⟨k,h1,w,h2,⟨o,h3,rfl,rfl,rfl⟩,h4⟩
abbrev rlT(p:aF)(t:Nat×Nat×Nat):Rule:=p.rules.getD t.1 default
abbrev nxT(p:aF)(c:mF)(t:Nat×Nat×Nat):mF:=BH (rlT p t) c t.2.1 ((t.2.2:Int)-1)
theorem anX{p:aF}{c:mF}{t:Nat×Nat×Nat}(h:enT p c t=true):t.1<p.rules.length/\t.2.1<c.states.length/\enR (rlT p t) c t.2.1 ((t.2.2:Int)-1)=true:=by
 obtain⟨h1,h2,h3⟩:=afL (show enB p c t.1 t.2.1 ((t.2.2:Int)-1)=true from h);exact⟨by omega,by omega,by rw[bN] at h3; exact h3⟩
theorem Xu{p:aF}{n:Int}{c:mF}(h:Na p n c=true):(c.states.length:Int)=n/\(0<=c.value/\c.value<max 1 (p.values.length:Int)):=by
 unfold Na at h;simp only[aD,bt,aq] at h;exact⟨h.1.1.1.1.1.1.1.1.1,h.1.1.2,h.1.2⟩
theorem aaP{p:aF}{c:mF}(hf:Oa p=0)(hv:vcN p c.states.length c=0):Rk p (pU p c)=0:=by
 obtain⟨n1,n2,hc⟩:=Ti hv;have hs:=Ac hc;obtain⟨_,v1,v2⟩:=Xu hc;have hall:(kN p.states.length c.states).all Ez=true:=by
  rw[bj];intro x hx;obtain⟨q,hq,rfl⟩:=dt hx;have hq':q<p.states.length:=by rwa [oC] at hq
  have e:=A8 hs hq';rw[getD_some hq] at e;have:=List.count_le_length (a:=(q:Int)) (l:=c.states);exact TB.2 (by omega)
 have hF:uz p (pU p c)=false:=by
  unfold uz;show((((((kN p.states.length c.states).length:Int) !=p.states.length)|| !((kN p.states.length c.states).all Ez))||decide (c.value<0))||decide (c.value>=max 1 (p.values.length:Int)))=false;rw[oC,hall];simp; omega
 unfold Rk;rw[hf,hF]; rfl
theorem aiH{p:aF}{c:mF}{r:Rule}{w:Nat}{o:Int}(hs: ∀ x∈c.states,0<=x/\x<p.states.length)(hr:N9 p.states.length p r)(hw:w<c.states.length): ∀ x∈FM r c.states w o,0<=x/\x<p.states.length:=by
 have h1:=Gl (w:=w) hs hr.place.dst;unfold FM;rw[bN];rcases hr.kind with hk|hk|hk
 ·rw[hk]; exact h1
 ·rw[hk]; exact Gl h1 hr.place.ajK
 ·rw[hk];show ∀ x∈Iu r c.states w (c.states.set w r.to) c.states.length,_;rw[afR hw];refine Gl (fun x hx=>?_) hr.place.dst;obtain⟨y,hy,rfl⟩:=ax.1 hx;have hy:=hs y hy;obtain⟨q1,q2⟩:=hr.place.rsp hk;exact q2 _ (by rw[getD_some (show y.toNat<r.response.length by omega)]; exact bh _)
theorem Qd{r:Rule}{s:List Int}{w:Nat}{o:Int}:(FM r s w o).length=s.length:=by
 unfold FM;cases (r.kind==2) with
 |true=>simp
 |false=>cases (r.kind==3) with
  |true=>show(Iu _ _ _ _ _).length=_; rw[NV]; simp
  |false=>simp
theorem aiI{p:aF}{c:mF}{r:Rule}{w:Nat}{o:Int}(hv:vcN p c.states.length c=0)(hr:N9 p.states.length p r)(hw:w<c.states.length):vcN p (BH r c w o).states.length (BH r c w o)=0:=by
 obtain⟨n1,n2,hc⟩:=Ti hv;have hs:=Ac hc;have hl:(BH r c w o).states.length=c.states.length:=Qd;have YV:=aiH (o:=o) hs hr hw;rw[hl];have hsz:P6 c.states.length=0:=by
  unfold vcN at hv;cases h:P6 c.states.length !=0 with
  |true=>rw[h] at hv; exact hv
  |false=>simpa using h
 have hw2:Xo (FM r c.states w o) ((p.states.length:Int)-1)=true:=by
  unfold Xo iq;rw[bj];intro x hx;have:=YV x hx;simp; omega
 have hval:0<=(bif decide (0<=r.write) then r.write else c.value)/\(bif decide (0<=r.write) then r.write else c.value)<max 1 (p.values.length:Int):=by
  obtain⟨_,v1,v2⟩:=Xu hc;cases h:decide (0<=r.write) with
  |false=>exact⟨v1,v2⟩
  |true =>
   have h':=ag h;rcases hr.wr with q|q
   ·have:=xH q;show 0<=r.write/\r.write<_;omega
   ·omega
 have hcb:Na p c.states.length (BH r c w o)=true:=by
  unfold Na at hc ⊢;simp only[aD,bt,aq] at hc ⊢;obtain⟨⟨⟨⟨⟨⟨⟨⟨⟨q1,q2⟩,q3⟩,q4⟩,q5⟩,q6⟩,q7⟩,q8⟩,q9⟩,q10⟩:=hc;exact⟨⟨⟨⟨⟨⟨⟨⟨⟨by rw[hl],hw2⟩,q3⟩,q4⟩,q5⟩,q6⟩,q7⟩,hval.1⟩,hval.2⟩,q10⟩
 unfold vcN;rw[hsz,hcb]; rfl
end Go.Proofs.YtdloaandiobgdaaGreatDoor
