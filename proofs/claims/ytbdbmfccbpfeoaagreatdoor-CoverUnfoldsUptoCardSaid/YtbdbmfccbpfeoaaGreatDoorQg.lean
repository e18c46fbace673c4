/-
 Steps of configurations and of elements answer the same: the plain law. No condition.
-/
import Derived.Test.YtbdbmfccbpfeoaaGreatDoorQf
import Derived.Test.YtbdbmfccbpfeoaaGreatDoorQd
namespace Go.Proofs.YtbdbmfccbpfeoaaGreatDoor
open Go.Ab Go.Proofs
set_option maxRecDepth 100000
def yQ(r:Rule)(e:Elem):Bool:=decide (0<=r.read)&&e.value !=r.read||e.counts.getD r.fr.toNat 0==0
def NU(r:Rule)(e:Elem)(c:List Int):Elem:=⟨bif decide (0<=r.write) then r.write else e.value,aZ c r.to 1⟩
theorem ahy{r:Rule}{e:Elem}(h:yQ r e=true):jf r e=none:=by
 unfold jf;rw[show(decide (0<=r.read)&&e.value !=r.read||e.counts.getD r.fr.toNat 0==0)=true from h]; rfl
theorem ads{r:Rule}{e:Elem}(h:yQ r e=false)(hk:r.kind=1):jf r e=bif !(qU r (bF e.counts r.fr)) then none else some (NU r e (bF e.counts r.fr)):=by
 unfold jf;rw[show(decide (0<=r.read)&&e.value !=r.read||e.counts.getD r.fr.toNat 0==0)=false from h,hk]; rfl
theorem adt{r:Rule}{e:Elem}(h:yQ r e=false)(hk:r.kind=2):jf r e=bif (bF e.counts r.fr).getD r.dZ.toNat 0==0 then none else some (NU r e (aZ (bF (bF e.counts r.fr) r.dZ) r.y7 1)):=by
 unfold jf;rw[show(decide (0<=r.read)&&e.value !=r.read||e.counts.getD r.fr.toNat 0==0)=false from h,hk]; rfl
theorem ahz{r:Rule}{e:Elem}(h:yQ r e=false)(hk:r.kind=3):jf r e=some (NU r e (vJ r (bF e.counts r.fr) (bF e.counts r.fr).length)):=by
 unfold jf;rw[show(decide (0<=r.read)&&e.value !=r.read||e.counts.getD r.fr.toNat 0==0)=false from h,hk]; rfl
section
variable {p:aB} {c:nD} {r:Rule}
theorem YC(hs: ∀ x∈c.states,0<=x/\x<p.states.length)(hfr:0<=r.fr/\r.fr<p.states.length):yQ r (gV p c)=false↔(decide (0<=r.read)&&c.value !=r.read)=false/\ ∃ w,w<c.states.length/\c.states.getD w 0=r.fr:=by
 unfold yQ;rw[bi];refine and_congr Iff.rfl ?_;show((jV p.states.length c.states).getD r.fr.toNat 0==0)=false↔_;rw[BN hs (by omega),cE];have e:((r.fr.toNat:Nat):Int)=r.fr:=by omega
 rw[e];constructor
 ·intro h
  have:r.fr∈c.states:=List.count_pos_iff.1 (by omega)
  obtain⟨w,hw,e⟩:=de this;exact⟨w,hw,by rw[getD_some hw]; exact e⟩
 ·rintro⟨w,hw,e⟩ h
  have:r.fr∈c.states:=by rw[<- e,getD_some hw]; exact bR hw
  have:=List.count_pos_iff.2 this;omega
def atB(r:Rule)(c:nD)(w:Nat):Bool:=(c.states.getD w 0 !=r.fr)||(decide (0<=r.read)&&c.value !=r.read)
theorem YD{w:Nat}{o:Int}:Xg r c w o=bif atB r c w then false else bif r.kind==2 then !(decide (o<0)||decide ((c.states.length:Int)<=o)||o==w||c.states.getD o.toNat 0 !=r.dZ) else bif o != -1 then false else bif r.kind==1 then Xe r c.states w else true:=rfl
theorem adu{w:Nat}:atB r c w=false↔(decide (0<=r.read)&&c.value !=r.read)=false/\c.states.getD w 0=r.fr:=by
 unfold atB;rw[bi,eW];exact And.comm
theorem NV{w:Nat}{o:Int}{l:List Int}(h:DX r c.states w o=l):gV p (yX r c w o)=⟨bif decide (0<=r.write) then r.write else c.value,jV p.states.length l⟩:=by
 unfold gV yX; rw[h]
theorem aiQ{w:Nat}{o:Int}(hs: ∀ x∈c.states,0<=x/\x<p.states.length)(hk:r.kind=1)(hw:w<c.states.length)(hf:c.states.getD w 0=r.fr)(hp:AX p.states.length r):gV p (yX r c w o)=NU r (gV p c) (bF (gV p c).counts r.fr):=by
 rw[NV (l:=c.states.set w r.to) (by unfold DX; rw[hk]; rfl),NT hs hw hf hp.dst]; rfl
theorem aiR{w:Nat}{o:Int}(hs: ∀ x∈c.states,0<=x/\x<p.states.length)(hk:r.kind=3)(hw:w<c.states.length)(hf:c.states.getD w 0=r.fr)(hp:AX p.states.length r):gV p (yX r c w o)=NU r (gV p c) (vJ r (bF (gV p c).counts r.fr) (bF (gV p c).counts r.fr).length):=by
 rw[NV (l:=Gf r c.states w (c.states.set w r.to) c.states.length) (by unfold DX; rw[hk]; rfl),afI hs hw hf hp.dst (hp.rsp hk).1 (hp.rsp hk).2]; rfl
theorem aiS{w o:Nat}(hs: ∀ x∈c.states,0<=x/\x<p.states.length)(hk:r.kind=2)(hw:w<c.states.length)(hf:c.states.getD w 0=r.fr)(ho:o<c.states.length)(hne:o≠w)(hg:c.states.getD o 0=r.dZ)(hp:AX p.states.length r):gV p (yX r c w o)=NU r (gV p c) (aZ (bF (bF (gV p c).counts r.fr) r.dZ) r.y7 1):=by
 rw[NV (l:=(c.states.set w r.to).set o r.y7) (by unfold DX; rw[hk]; rfl)];have hg':(c.states.set w r.to).getD o 0=r.dZ:=by rw[Ip,av (fun h=>hne h.1)]; exact hg
 rw[NT (EF hs hp.dst) (by simpa using ho) hg' hp.adT,NT hs hw hf hp.dst];unfold NU
 congr 1
 show aZ (bF (aZ (bF (jV p.states.length c.states) r.fr) r.to 1) r.dZ) r.y7 1=aZ (aZ (bF (bF (jV p.states.length c.states) r.fr) r.dZ) r.y7 1) r.to 1;have hl: ∀ a:List Int,∀ i d,(aZ a i d).length=a.length:=fun a i d=>uJ
 refine eC (by simp[hl,Gv]) fun q h1 h2=>?_
 have e1:=getD_some (d:=(0:Int)) h1;have e2:=getD_some (d:=(0:Int)) h2;rw[<- e1,<- e2];simp only[Gv,nJ,hl];split<;>split<;>split<;>split<;>simp_all<;>omega
theorem KR{w:Nat}{o:Int}(hs: ∀ x∈c.states,0<=x/\x<p.states.length)(hr:Gp p.states.length p r)(hw:w<c.states.length)(he:Xg r c w o=true):jf r (gV p c)=some (gV p (yX r c w o)):=by
 rw[YD] at he;cases h1:atB r c w with
 |true=>rw[h1] at he; cases he
 |false =>
  rw[h1,bB] at he;obtain⟨h2,h3⟩:=adu.1 h1;have hoff:=(YC hs hr.place.src).2 ⟨h2,w,hw,h3⟩;rcases hr.kind with hk|hk|hk
  ·rw[hk] at he;replace he:(bif o != -1 then false else Xe r c.states w)=true:=he;cases h4:(o != -1) with
   |true=>rw[h4] at he; cases he
   |false =>
    rw[h4,bB,P9 hs hw h3] at he;rw[ads hoff hk,show qU r (bF (gV p c).counts r.fr)=true from he,aiQ hs hk hw h3 hr.place]; rfl
  ·rw[hk] at he;replace he:(!(decide (o<0)||decide ((c.states.length:Int)<=o)||o==w||c.states.getD o.toNat 0 !=r.dZ))=true:=he;simp only[bl,bi,ao,cE,eW] at he;obtain⟨⟨⟨o1,o2⟩,o3⟩,o4⟩:=he;obtain⟨j,rfl⟩: ∃ j:Nat,o=j:=⟨o.toNat,by omega⟩
   rw[be] at o4;have hq:((bF (jV p.states.length c.states) r.fr).getD r.dZ.toNat 0==0)=false:=(KQ hs hw h3 (by have:=hr.place.YI; omega)).2 ⟨j,by omega,by omega,by rw[o4]; have:=hr.place.YI; omega⟩;rw[adt hoff hk,show((bF (gV p c).counts r.fr).getD r.dZ.toNat 0==0)=false from hq,aiS hs hk hw h3 (by omega) (by omega) o4 hr.place]; rfl
  ·rw[ahz hoff hk,aiR hs hk hw h3 hr.place]
theorem afJ{x:Elem}(hs: ∀ x∈c.states,0<=x/\x<p.states.length)(hr:Gp p.states.length p r)(h:jf r (gV p c)=some x): ∃ w o:Nat,w<c.states.length/\o<c.states.length+1/\Xg r c w ((o:Int)-1)=true/\gV p (yX r c w ((o:Int)-1))=x:=by
 cases hoff:yQ r (gV p c) with
 |true=>rw[ahy hoff] at h; cases h
 |false =>
  obtain⟨h2,w,hw,h3⟩:=(YC hs hr.place.src).1 hoff;have h1:=adu.2 ⟨h2,h3⟩;rcases hr.kind with hk|hk|hk
  ·have he:Xg r c w (((0:Nat):Int)-1)=true:=by
    rw[YD,h1,hk];show Xe r c.states w=true;rw[P9 hs hw h3];rw[ads hoff hk] at h;cases ha:qU r (bF (gV p c).counts r.fr) with
    |true=>exact ha
    |false=>rw[ha] at h; cases h
   refine⟨w,0,hw,by omega,he,?_⟩;have:=KR hs hr hw he;rw[h] at this; exact(Option.some.inj this).symm
  ·have hq:((bF (jV p.states.length c.states) r.fr).getD r.dZ.toNat 0==0)=false:=by
    rw[adt hoff hk] at h;cases ha:(bF (gV p c).counts r.fr).getD r.dZ.toNat 0==0 with
    |false=>exact ha
    |true=>rw[ha] at h; cases h
   obtain⟨j,j1,j2,j3⟩:=(KQ hs hw h3 (by have:=hr.place.YI; omega)).1 hq;have he:Xg r c w (((j+1:Nat):Int)-1)=true:=by
    rw[YD,h1,hk,show((j+1:Nat):Int)-1=j by omega];show(!(decide ((j:Int)<0)||decide ((c.states.length:Int)<=j)||(j:Int)==w||c.states.getD (j:Int).toNat 0 !=r.dZ))=true;simp only[bl,bi,ao,cE,eW,be];refine⟨⟨⟨by omega,by omega⟩,by omega⟩,?_⟩;rw[j3]; have:=hr.place.YI; omega
   refine⟨w,j+1,hw,by omega,he,?_⟩;have:=KR hs hr hw he;rw[h] at this; exact(Option.some.inj this).symm
  ·have he:Xg r c w (((0:Nat):Int)-1)=true:=by rw[YD,h1,hk]; rfl
   refine⟨w,0,hw,by omega,he,?_⟩;have:=KR hs hr hw he;rw[h] at this; exact(Option.some.inj this).symm
end
theorem Xi{p:aB}{c:nD}{n:Nat}{t:Nat×Nat×Nat}:t∈s1 p c n↔t.1<n/\t.2.1<c.states.length/\t.2.2<c.states.length+1/\enT p c t=true:=by
 obtain⟨k,w,o⟩:=t;simp only[s1,s2,s3,ck,cL,eA,bA,eh];constructor
 ·rintro⟨k',h1,w',h2,⟨o',h3,rfl,rfl,rfl⟩,h4⟩; exact⟨h1,h2,h3,h4⟩
 ·rintro⟨h1,h2,h3,h4⟩; exact⟨k,h1,w,h2,⟨o,h3,rfl,rfl,rfl⟩,h4⟩
abbrev rlT(p:aB)(t:Nat×Nat×Nat):Rule:=p.rules.getD t.1 default
abbrev nxT(p:aB)(c:nD)(t:Nat×Nat×Nat):nD:=yX (rlT p t) c t.2.1 ((t.2.2:Int)-1)
abbrev elT(p:aB)(c:nD)(t:Nat×Nat×Nat):Elem:=gV p (nxT p c t)
theorem aiT{p:aB}{c:nD}{t:Nat×Nat×Nat}(h:enT p c t=true):t.1<p.rules.length/\t.2.1<c.states.length/\Xg (rlT p t) c t.2.1 ((t.2.2:Int)-1)=true:=by
 obtain⟨h1,h2,h3⟩:=adh (show enB p c t.1 t.2.1 ((t.2.2:Int)-1)=true from h);exact⟨by omega,by omega,by rw[be] at h3; exact h3⟩
theorem aiU{p:aB}{c:nD}{t:Nat×Nat×Nat}(h1:t.1<p.rules.length)(h2:t.2.1<c.states.length)(h3:Xg (rlT p t) c t.2.1 ((t.2.2:Int)-1)=true):enT p c t=true:=by
 show enB p c t.1 t.2.1 ((t.2.2:Int)-1)=true;unfold enB;rw[show(decide ((t.1:Int)<0)||decide ((p.rules.length:Int)<=t.1)||decide ((t.2.1:Int)<0)||decide ((c.states.length:Int)<=t.2.1))=false by simp; omega,bB,be];exact h3
theorem adv{p:aB}{c:nD}(hv:CO p)(hpl:lV p)(hs: ∀ x∈c.states,0<=x/\x<p.states.length){x:Elem}:x∈qH p (gV p c) p.rules.length↔x∈(s1 p c p.rules.length).map (elT p c):=by
 simp only[qH,cB,List.mem_filterMap,bA];constructor
 ·rintro⟨r,hr,hf⟩;obtain⟨k,hk,rfl⟩:=de hr;have hrp:=(Jr hv hpl _ (bR hk)).f;obtain⟨w,o,h1,h2,h3,h4⟩:=afJ hs hrp hf;have e:rlT p (k,w,o)=p.rules[k]:=getD_some hk;refine⟨(k,w,o),Xi.2 ⟨hk,h1,h2,aiU hk h1 ?_⟩,?_⟩
  ·rw[e]; exact h3
  ·show gV p (yX (rlT p (k,w,o)) c w ((o:Int)-1))=x;rw[e]; exact h4
 ·rintro⟨t,ht,rfl⟩;obtain⟨_,_,_,h4⟩:=Xi.1 ht;obtain⟨k1,w1,hR⟩:=aiT h4;have hm:rlT p t∈p.rules:=by show p.rules.getD t.1 default∈p.rules; rw[getD_some k1]; exact bR k1
  exact⟨rlT p t,hm,KR hs (Jr hv hpl _ hm).f w1 hR⟩
theorem UQ{p:aB}{n:Int}{c:nD}(h:AL p n c=true):(c.states.length:Int)=n/\(0<=c.value/\c.value<max 1 (p.values.length:Int)):=by
 unfold AL at h;simp only[aD,bo,ab] at h;exact⟨h.1.1.1.1.1.1.1.1.1,h.1.1.2,h.1.2⟩
theorem YE{p:aB}{c:nD}(hf:zN p=0)(hv:vcN p c.states.length c=0):xQ p (gV p c)=0:=by
 obtain⟨n1,n2,hc⟩:=NQ hv;have hs:=vk hc;obtain⟨_,v1,v2⟩:=UQ hc;have hall:(jV p.states.length c.states).all EH=true:=by
  rw[cA];intro x hx;obtain⟨q,hq,rfl⟩:=de hx;have hq':q<p.states.length:=by rwa [jW] at hq
  have e:=BN hs hq';rw[getD_some hq] at e;have:=List.count_le_length (a:=(q:Int)) (l:=c.states);exact Qg.2 (by omega)
 have hF:uF p (gV p c)=false:=by
  unfold uF;show((((((jV p.states.length c.states).length:Int) !=p.states.length)|| !((jV p.states.length c.states).all EH))||decide (c.value<0))||decide (c.value>=max 1 (p.values.length:Int)))=false;rw[jW,hall];simp; omega
 unfold xQ;rw[hf,hF]; rfl
theorem Xj{p:aB}{c:nD}(hf:zN p=0)(hv:vcN p c.states.length c=0):xR p (gV p c)=((s1 p c p.rules.length).map (elT p c)).foldl wF []:=by
 obtain⟨hval,hpl⟩:=NM hf;obtain⟨n1,n2,hc⟩:=NQ hv;have hs:=vk hc;have h1:xR p (gV p c)=(qH p (gV p c) p.rules.length).foldl wF []:=by
  rw[xR,YE hf hv,<- ahO]; rfl
 rw[h1];obtain⟨a1,a2⟩:=Fq (qH p (gV p c) p.rules.length) [] List.Pairwise.nil;obtain⟨b1,b2⟩:=Fq ((s1 p c p.rules.length).map (elT p c)) [] List.Pairwise.nil;refine D8 a1 b1 fun x=>?_
 rw[a2,b2,adv (CP hval) hpl hs]
theorem afK{p:aB}{c:nD}{r:Rule}{w:Nat}{o:Int}(hs: ∀ x∈c.states,0<=x/\x<p.states.length)(hr:Gp p.states.length p r)(hw:w<c.states.length): ∀ x∈DX r c.states w o,0<=x/\x<p.states.length:=by
 have h1:=EF (w:=w) hs hr.place.dst;unfold DX;rw[be];rcases hr.kind with hk|hk|hk
 ·rw[hk]; exact h1
 ·rw[hk]; exact EF h1 hr.place.adT
 ·rw[hk];show ∀ x∈Gf r c.states w (c.states.set w r.to) c.states.length,_;rw[adq hw];refine EF (fun x hx=>?_) hr.place.dst;obtain⟨y,hy,rfl⟩:=bA.1 hx;have hy:=hs y hy;obtain⟨q1,q2⟩:=hr.place.rsp hk;exact q2 _ (by rw[getD_some (show y.toNat<r.response.length by omega)]; exact bR _)
theorem UR{r:Rule}{s:List Int}{w:Nat}{o:Int}:(DX r s w o).length=s.length:=by
 unfold DX;cases (r.kind==2) with
 |true=>simp
 |false=>cases (r.kind==3) with
  |true=>show(Gf _ _ _ _ _).length=_; rw[KP]; simp
  |false=>simp
theorem afL{p:aB}{c:nD}{r:Rule}{w:Nat}{o:Int}(hv:vcN p c.states.length c=0)(hr:Gp p.states.length p r)(hw:w<c.states.length):vcN p (yX r c w o).states.length (yX r c w o)=0:=by
 obtain⟨n1,n2,hc⟩:=NQ hv;have hs:=vk hc;have hl:(yX r c w o).states.length=c.states.length:=UR;have WH:=afK (o:=o) hs hr hw;rw[hl];have hsz:zK c.states.length=0:=by
  unfold vcN at hv;cases h:zK c.states.length !=0 with
  |true=>rw[h] at hv; exact hv
  |false=>simpa using h
 have hw2:CB (DX r c.states w o) ((p.states.length:Int)-1)=true:=by
  unfold CB dX;rw[cA];intro x hx;have:=WH x hx;simp; omega
 have hval:0<=(bif decide (0<=r.write) then r.write else c.value)/\(bif decide (0<=r.write) then r.write else c.value)<max 1 (p.values.length:Int):=by
  obtain⟨_,v1,v2⟩:=UQ hc;cases h:decide (0<=r.write) with
  |false=>exact⟨v1,v2⟩
  |true =>
   have h':=aq h;rcases hr.wr with q|q
   ·have:=vC q;show 0<=r.write/\r.write<_;omega
   ·omega
 have hcb:AL p c.states.length (yX r c w o)=true:=by
  unfold AL at hc ⊢;simp only[aD,bo,ab] at hc ⊢;obtain⟨⟨⟨⟨⟨⟨⟨⟨⟨q1,q2⟩,q3⟩,q4⟩,q5⟩,q6⟩,q7⟩,q8⟩,q9⟩,q10⟩:=hc;exact⟨⟨⟨⟨⟨⟨⟨⟨⟨by rw[hl],hw2⟩,q3⟩,q4⟩,q5⟩,q6⟩,q7⟩,hval.1⟩,hval.2⟩,q10⟩
 unfold vcN;rw[hsz,hcb]; rfl
abbrev gdB(p:aB):Bool:=aW p !=0|| !(bif aW p !=0 then Gw else iF p).cover&& !(bif aW p !=0 then Gw else iF p).monadic
theorem Xk{p:aB}(h:gdB p=false):zN p=0:=by
 obtain⟨h1,h2⟩:=bi.1 h;unfold zN;rw[h1,bB] at h2 ⊢;rw[h2]; rfl
theorem aiV{b:Bool}(h:(!b)=true):b=false:=by cases b with|false=>rfl|true=>cases h
theorem adw{p:aB}{c:nD}(h1:zN p=0)(h2:vcN p c.states.length c=0):Rk p c=(gV p c,0):=by
 unfold Rk; rw[h1,h2]; rfl
theorem Xl{r:Rule}{c:nD}{w:Nat}{o:Int}(hc:nV c):nV (yX r c w o):=⟨hc.shape,by show(DX r c.states w o).length<_; rw[UR]; exact hc.states,hc.sent,hc.kY⟩
theorem afM{l:List (Nat×Nat×Nat)}: ∀ {i:Nat},i<l.length->Zz (l.map J5) i=some (J5 (l.getD i (0,0,0))):=by
 induction l with
 |nil=>intro i h; simp at h
 |cons x r ih =>
  intro i h;cases i with
  |zero=>rfl
  |succ i=>exact ih (by simpa using h)
theorem aiW{m:Fm}{h:Hz}{d k a b:Nat}{i:Int}{l:List V}{t:V}{f:Bool}(ha:Dv m (.t a)=some (.Cj k f l))(hb:Dv m (.t b)=some (.int i))(hn:Zz l i.toNat=some t):qz m h (qi d k a b).op=some (.ref k t,.yes (0<=i)):=by
 show qz m h (.ia k (.t a) (.t b))=_;simp only[qz,qz2,Vk,ha,hb,V.bare,iaZ,hn,dO,f7,bS];rfl
theorem S.ahA(p:aB)(c:nD)(t:Nat×Nat×Nat)(hp:dJ p)(hv:aW p=0)(hpl:lV p)(hc:nV c)(Xh:vcN p c.states.length c=0)(he:enT p c t=true) :
  aj Tryz.prog 10 [.dat (.fM p),zI c.states.length,AB c,J5 t] (.bU [AB (nxT p c t),.int 0]):=by
 have:=S.uq p c t.1 t.2.1 ((t.2.2:Int)-1) hp hv hpl hc Xh he;rwa [be] at this
set_option maxHeartbeats 1000000 in
theorem S.jX(p:aB)(c:nD)(hp:dJ p)(hc:nV c):aj Tryz.prog 3 [.dat (.fM p),AB c] (.bool true):=by
 have c2:=hc.states;refine aj.of Bd.jX (by simp) rfl rfl ?_;conv=>whnf
 refine ah.pure (S.uw p hp) rfl ?_;conv=>whnf
 repeat(refine VC.mk (by first|exact id|(intro h; rw[h]; rfl)|(intro h; simp[h]; done)|(intro h; simp only[h,gH]; done)) ?_; conv=>whnf)
 refine ah.eY (fun q=>S.nH p c.states.length c hp (NM (Xk (p:=p) (aiV q))).1 (NM (Xk (p:=p) (aiV q))).2 hc) rfl ?_;conv=>whnf
 repeat(refine VC.mk (by first|exact id|(intro h; rw[h]; rfl)) ?_; conv=>whnf)
 refine⟨fun h1=>?_,fun h1=>?_⟩
 ·conv=>whnf
  refine ah.pure (S.ac8) rfl ?_;conv=>whnf
  exact ak.bool rfl
 replace h1:(gdB p||vcN p c.states.length c !=0)=false:=h1;obtain⟨h1a,h1b⟩:=bi.1 h1;have adx:=Xk h1a;have Xh:vcN p c.states.length c=0:=by simpa using h1b
 obtain⟨hv,hpl⟩:=NM adx;obtain⟨n1,n2,hcb⟩:=NQ Xh;have hst:=vk hcb;have hvf:=CP hv;have g1:=hp.states;conv=>whnf
 refine ah.pure (S.lY p c hp hc) rfl ?_;rw[adw adx Xh];conv=>whnf
 refine ah.pure (S.xW p (gV p c) hp (by show(jV p.states.length c.states).length<_; rw[jW]; omega)) rfl ?_;rw[YE adx Xh];conv=>whnf
 refine ah.pure (S.BM p c hp hv hpl hc Xh) (by simp[V.free,V.bG]) ?_;conv=>whnf
 repeat(refine VC.mk (by first|exact id|(intro h; rw[h]; rfl)) ?_; conv=>whnf)
 refine Fork.mk (fun q=>absurd (q.symm.trans (rfl)).symm aM) (fun _=>?_);conv=>whnf
 refine aF.nil 14 40 3 (by rfl) rfl rfl rfl ?_;refine aF.objs 100 [2,3,7,10,12] (fun i:Nat=>[(15,.int i),(14,.own 50)]) (fun i=>[(0,EN p),(1,Xd c),(15,.box 36 4 (zI c.states.length)),(50,bT ((((s1 p c p.rules.length).take i).map (elT p c)).foldl wF []))]) (fun i=>i<=(s1 p c p.rules.length).length) (fun i=>(s1 p c p.rules.length).length-i) 0 [0,1,15,74] rfl (by decide) (fun _=>rfl) (ap _) ?_ ?_ ?_
 ·exact(sR rfl)
 ·exact⟨gK rfl rfl,gK rfl rfl,gK rfl rfl,gK rfl rfl,trivial⟩
 conv=>whnf
 refine⟨(sR rfl),rfl,?_⟩;rintro i hi;conv=>whnf
 refine⟨fun g3=>?_,fun g3=>?_⟩
 ·have hi':i<(s1 p c p.rules.length).length:=by
   have:(i:Int)<((((s1 p c p.rules.length).map J5).length:Nat):Int):=aq g3
   rw[bh] at this; omega
  conv=>whnf
  have hn:Zz ((s1 p c p.rules.length).map J5) (i:Int).toNat=some (J5 ((s1 p c p.rules.length).getD i (0,0,0))):=by rw[be]; exact afM hi'
  have hm:(s1 p c p.rules.length).getD i (0,0,0)∈s1 p c p.rules.length:=by rw[getD_some hi']; exact bR hi'
  have hstep:((s1 p c p.rules.length).take (i+1)).map (elT p c)=((s1 p c p.rules.length).take i).map (elT p c)++[elT p c ((s1 p c p.rules.length).getD i (0,0,0))]:=by
   rw[cJ,cx,getD_some hi',bE hi']; rfl
  revert hn hm hstep;generalize (s1 p c p.rules.length).getD i (0,0,0)=t;intro hn hm hstep;obtain⟨_,_,_,het⟩:=Xi.1 hm;obtain⟨k1,w1,_⟩:=aiT het;have hmr:rlT p t∈p.rules:=by show p.rules.getD t.1 default∈p.rules; rw[getD_some k1]; exact bR k1
  have hvn:=afL (o:=(t.2.2:Int)-1) Xh (Jr hvf hpl _ hmr).f w1;have hfl:=aa8 (((s1 p c p.rules.length).take i).map (elT p c)) [];have hL:=adn (p:=p) (c:=c) p.rules.length;have e1:c.states.length*(c.states.length+1)<=8*9:=eT (by omega) (by omega);have e2:p.rules.length*(c.states.length*(c.states.length+1))<=8*(8*9):=eT hvf.Qe e1;rw[bh,bL,bw] at hfl;have hel: ∀ x:nD,(gV p x).counts.length<2^30:=fun x=>by show(jV p.states.length x.states).length<_; rw[jW]; omega
  have hfs:eG ((((s1 p c p.rules.length).take i).map (elT p c)).foldl wF []):=fun x hx=>by
   rcases aa9 _ _ _ hx with h'|h'
   ·cases h'
   ·obtain⟨y,_,rfl⟩:=bA.1 h';have:=hel (nxT p c y);show(gV p (nxT p c y)).counts.length<2^40;omega
  rw[aiW (f:=false) ?ha ?hb hn]
  case ha=>rfl
  case hb=>rfl
  conv=>whnf
  refine .mk (by omega) ?_;conv=>whnf
  refine XY.pure (S.ahA p c t hp hv hpl hc Xh het) rfl ?_;conv=>whnf
  refine ah.pure (S.lY p (nxT p c t) hp (Xl hc)) rfl ?_;rw[adw adx hvn];conv=>whnf
  repeat(refine VC.mk (by first|exact id|(intro h; rw[h]; rfl)) ?_; conv=>whnf)
  refine Fork.mk (fun q=>absurd (q.symm.trans (rfl)).symm aM) (fun _=>?_);conv=>whnf
  refine ah.insert rfl rfl (by omega) hfs (hel _) (fun hf=>?_) (fun hf=>?_)
  ·conv=>whnf
   refine .mk (by simp only[okI] at *; first|omega|(simp_all; done)|(simp_all; omega)) ?_;conv=>whnf
   refine⟨i+1,[0,1,15,50],by omega,by omega,(sR rfl),(sR rfl),gK rfl rfl,gK rfl rfl,gK rfl rfl,⟨rfl,nofun,rfl,rfl,rfl,_,rfl,rfl,rfl,dH.of_eq ?_⟩,trivial⟩;rw[hstep,eJ];show(bT (wF _ _)).ay.l=_;rw[wF,ba hf]
  ·conv=>whnf
   refine .mk (by simp only[okI] at *; first|omega|(simp_all; done)|(simp_all; omega)) ?_;conv=>whnf
   refine⟨i+1,[0,1,15,135],by omega,by omega,(sR rfl),(sR rfl),gK rfl rfl,gK rfl rfl,gK rfl rfl,⟨rfl,nofun,rfl,rfl,rfl,_,rfl,rfl,rfl,dH.of_eq ?_⟩,trivial⟩;rw[hstep,eJ];rfl
 ·have hi':i=(s1 p c p.rules.length).length:=by
   have: ¬ ((i:Int)<((((s1 p c p.rules.length).map J5).length:Nat):Int)):=aR g3
   rw[bh] at this; omega
  subst hi';rw[cB,<- Xj adx Xh];conv=>whnf
  have ajX:=YN p (gV p c) (by have:=hvf.Qe; omega);have hps:=RJ p (gV p c) (by show(jV p.states.length c.states).length<_; rw[jW]; omega);have hsame:aj Tryz.prog 12 [.row 3 false (.elems (xR p (gV p c))),.row 3 false (.elems (xR p (gV p c)))] (.bool true):=by
   have:=S.zX (xR p (gV p c)) (xR p (gV p c)) false false (by omega) (by omega) hps hps;rwa [cY rfl] at this
  refine ah.lend hsame ⟨KY trivial rfl,aG _,trivial⟩ rfl rfl ?_;conv=>whnf
  refine ah.eY (fun _=>S.ac8) rfl ?_;conv=>whnf
  refine VC.mk id ?_;conv=>whnf
  exact ak.bool rfl
end Go.Proofs.YtbdbmfccbpfeoaaGreatDoor
