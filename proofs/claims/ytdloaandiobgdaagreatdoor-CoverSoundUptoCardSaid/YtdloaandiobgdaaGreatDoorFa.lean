/-
 A part of the proof. No condition.
-/
import Derived.Test.YtdloaandiobgdaaGreatDoorRb
import Derived.Test.YtdloaandiobgdaaGreatDoorLg
import Derived.Test.YtdloaandiobgdaaGreatDoorKa
namespace Go.Proofs.YtdloaandiobgdaaGreatDoor
open Go.Ab Go.Proofs
set_option maxRecDepth 100000
def IZ(s:Int):List Int->Nat->Int
 |[],_=> -1
 |x::r,i=>bif s==x then(i:Int) else IZ s r (i+1)
theorem adu{s:Int}{l:List Int}:decide (0<=IZ s l 0)=l.any fun x=>s==x:=by
 have: ∀ {l:List Int} {i:Nat},0<=IZ s l i↔(l.any fun x=>s==x)=true:=by
  intro l;induction l with
  |nil=>intro i; simp[IZ]
  |cons x r ih =>
   intro i;rw[ez,cY,<- ih (i:=i+1)];show(0:Int)<=(bif s==x then(i:Int) else IZ s r (i+1))↔_;generalize (s==x)=b;cases b<;>simp
 rw[cR,aq]; exact this
theorem S.slices_Index_int(l:List Int)(s:Int)(f:Bool)(hl:l.length<2^40):ak Tryz.prog 50 [.row 0 f (.ints l),.int s] (.int (IZ s l 0)):=by
 refine ak.of Bd.jO (by simp) rfl rfl ?_;refine aG.same [0,1,6,7] (fun i:Nat=>[(8,.int i)]) (fun i=>i<=l.length/\IZ s l 0=IZ s (l.drop i) i) (fun i=>l.length-i) 0 rfl (by decide) rfl (fun _=>rfl) ⟨by omega,by simp⟩ ⟨⟨_,rfl,rfl⟩,trivial⟩ ?_;refine⟨rfl,?_⟩;rintro i ⟨hi,hall⟩;refine⟨fun h3=>?_,fun h3=>?_⟩
 ·have hi':i<l.length:=by simpa using h3
  rw[dO 0 hi'] at hall;simp only[IZ] at hall;refine .mk (by simp only[Rw.rng] at *; omega) ?_;refine⟨fun h4=>?_,fun h4=>?_⟩
  ·conv=>whnf
   refine ay.int ?_;have h4':(s==l.getD i 0)=true:=h4;rw[hall,h4']; rfl
  ·conv=>whnf
   refine .mk (by simp only[okI] at *; omega) ?_;refine⟨i+1,⟨by omega,?_⟩,by omega,⟨⟨_,rfl,rfl⟩,trivial⟩,?_,rfl⟩
   ·have h4':(s==l.getD i 0)=false:=h4;rw[hall,h4']; rfl
   ·repeat' (first|exact trivial|exact⟨_,rfl,rfl⟩|constructor)
 ·conv=>whnf
  refine ay.int ?_;have hi':l.length<=i:=by simpa using h3
  rw[hall,cJ hi']; rfl
def Gp(l:List Int)(s:Int):Bool:=l.any fun x=>s==x
theorem S.slices_Contains_int(l:List Int)(s:Int)(f:Bool)(hl:l.length<2^40):ak Tryz.prog 27 [.row 0 f (.ints l),.int s] (.bool (Gp l s)):=by
 refine ak.of Bd.iR (by simp) rfl rfl ?_;refine ah.pure (S.slices_Index_int l s f hl) rfl ?_;exact ay.bool adu.symm
def vX(n:Nat)(l:List Int):Prop:= ∀ q∈l,0<=q/\q<n
def aa9(c l:List Int):Bool:=(List.range c.length).any fun i=>decide (c.getD i 0>0)&& !(Gp l i)
def uD(ex c:List Int)(i:Nat):Bool:=((ex.length:Int)==0)||(List.range i).any fun j=> !(c.getD j 0==0)&&Gp ex j
def Bh(al c:List Int)(i:Nat):Bool:=(List.range i).any fun j=> !(c.getD j 0==0)&&(decide ((al.length:Int)>0)&& !(Gp al j))
def oW(r:Rule)(c:List Int):Bool:= !(Bh r.all c c.length)&&uD r.ex c c.length
theorem N7{ex c:List Int}{i:Nat}:uD ex c (i+1)=(uD ex c i||(!(c.getD i 0==0)&&Gp ex i)):=by
 simp only[uD,cp,eT,ez,List.any_nil,fL,Bool.or_assoc]
theorem N8{al c:List Int}{i:Nat}:Bh al c (i+1)=(Bh al c i||(!(c.getD i 0==0)&&(decide ((al.length:Int)>0)&& !(Gp al i)))):=by
 simp only[Bh,cp,eT,ez,List.any_nil,fL]
theorem adv{al c:List Int}{i:Nat}(hi:i<c.length)(h0:(c.getD i 0==0)=false)(h:(decide ((al.length:Int)>0)&& !(Gp al i))=true):Bh al c c.length=true :=
 sJ.2 ⟨i,hi,by rw[h0,h]; rfl⟩
theorem S.mJ(r:Rule)(c:List Int)(f:Bool)(hr:wS r)(hc:c.length<2^40):ak Tryz.prog 157 [.dat (.rule r),.row 0 f (.ints c)] (.bool (oW r c)):=by
 have g1:=hr.ex; have g2:=hr.all;refine ak.of Bd.mJ (by simp) rfl rfl ?_;refine aG.same [2,12,13] (fun i:Nat=>[(14,.int i),(5,.bool (uD r.ex c i))]) (fun i=>i<=c.length/\Bh r.all c i=false) (fun i=>c.length-i) 0 rfl (by decide) rfl (fun _=>rfl) ⟨by omega,rfl⟩ ⟨⟨_,rfl,rfl⟩,⟨_,rfl,?_⟩,trivial⟩ ?_
 ·show(V.bool (uD r.ex c 0)).aI=(V.bool ((r.ex.length:Int)==0)).aI;rw[uD]; simp
 refine⟨rfl,?_⟩;rintro i ⟨hi,hall⟩;refine⟨fun h3=>?_,fun h3=>?_⟩
 ·have hi':i<c.length:=by simpa using h3
  refine .mk (by simp only[Rw.rng] at *; omega) ?_;refine⟨fun h4=>?_,fun h4=>?_⟩
  ·replace h4:(c.getD i 0==0)=true:=h4;refine .mk (by simp only[okI] at *; omega) ?_;refine⟨i+1,⟨by omega,by rw[N8,hall,h4]; rfl⟩,by omega,⟨⟨_,rfl,rfl⟩,⟨_,rfl,?_⟩,trivial⟩,?_,rfl⟩
   ·rw[N7,h4]; simp[V.aI]
   ·repeat' (first|exact trivial|exact⟨_,rfl,rfl⟩|constructor)
  ·replace h4:(c.getD i 0==0)=false:=h4;repeat(refine VC.mk (by first|exact id|exact fun h=>⟨h,h⟩) ?_)
   refine ah.iJ (fun _=>S.slices_Contains_int r.ex i false (by omega)) rfl ?_;repeat(refine VC.mk (by first|exact id|exact fun h=>⟨h,h⟩|(intro h; rw[h]; rfl)) ?_)
   refine ah.iJ (fun _=>S.slices_Contains_int r.all i false (by omega)) rfl ?_;repeat(refine VC.mk id ?_)
   refine⟨fun h5=>?_,fun h5=>?_⟩
   ·conv=>whnf
    exact ay.bool (by rw[oW,adv hi' h4 h5]; rfl)
   ·conv=>whnf
    refine .mk (by simp only[okI] at *; omega) ?_;refine⟨i+1,⟨by omega,by rw[N8,hall,h4]; simpa using h5⟩,by omega,⟨⟨_,rfl,rfl⟩,⟨_,rfl,?_⟩,trivial⟩,?_,rfl⟩
    ·rw[N7,h4]; simp[V.aI,vS]
    ·repeat' (first|exact trivial|exact⟨_,rfl,rfl⟩|constructor)
 ·have hi':c.length<=i:=by simpa using h3
  have e:i=c.length:=gT hi hi';subst e;exact ay.bool (by rw[oW,hall]; rfl)
structure EG(n:Nat)(r:Rule):Prop where
 src:0<=r.fr/\r.fr<n
 dst:0<=r.to/\r.to<n
 agS:0<=r.dQ/\r.dQ<n
 ajK:0<=r.yT/\r.yT<n
 rsp:r.kind=3->r.response.length=n/\vX n r.response
 exs:vX n r.ex
def X0(c:List Int):Prop:= ∀ x∈c,0<=x/\x<=1048576
def aV(c:List Int)(i d:Int):List Int:=c.set i.toNat (c.getD i.toNat 0+d)
def jc(c:List Int)(i:Int):List Int:=c.set i.toNat (c.getD i.toNat 0-1)
def xP(r:Rule)(c:List Int)(i:Nat):List Int:=(List.range i).foldl (fun a j=>aV a (r.response.getD j 0) (c.getD j 0)) (List.replicate c.length 0)
def IX(r:Rule)(e:Elem):Option Elem :=
 let c1:=jc e.counts r.fr
 let out (c:List Int):Option Elem:=some ⟨bif decide (r.write>=0) then r.write else e.value,aV c r.to 1⟩
 bif (decide (0<=r.read)&&e.value !=r.read||e.counts.getD r.fr.toNat 0==0) then none else
 bif r.kind==1 then(bif !(oW r c1) then none else out c1) else
 bif r.kind==2 then(bif c1.getD r.dQ.toNat 0==0 then none else out (aV (jc c1 r.dQ) r.yT 1)) else
 bif r.kind==3 then out (xP r c1 c1.length) else out c1
theorem zl{h:Hz}{j:Nat}{Z:Nat->Prop}{l:List Int}(hz:Z j)(q:h.get j=some (.row 3 0 (.ints l) [])):T.sub Z h.aj (V.row 0 false (.ints l)).aI (V.own j).aI:=by
 show T.sub Z h.aj (.sl 0 false (l.map T.int)) (.own j);simp only[T.sub];refine⟨trivial,hz,?_,by decide,3,?_⟩
 ·rw[iO]; intro t ht; obtain⟨x,_,rfl⟩:=ax.1 ht; rfl
 ·have:=aK q;rw[this]; simp[OV.au,Rw.aS,V.aS]
theorem I4{n:Nat}(h:0<n):(bif isZero (.int n) then some Rw.nil else adw (n:Int).toNat (T.int 0))=some (.ints (List.replicate n 0)):=by
 cases n with
 |zero=>omega
 |succ k=>rfl
theorem Kt{r:Rule}{c:List Int}{i:Nat}:xP r c (i+1)=aV (xP r c i) (r.response.getD i 0) (c.getD i 0):=by
 simp only[xP,cp,eh,eB,List.foldl_nil]
theorem zh{r:Rule}{c:List Int}{i:Nat}:(xP r c i).length=c.length:=by
 induction i with
 |zero=>simp[xP]
 |succ i ih=>rw[Kt]; simp[aV,ih]
abbrev lq(l:List Int):OV:=.row 3 0 (.ints l) []
end Go.Proofs.YtdloaandiobgdaaGreatDoor
namespace Go.Proofs.YtdloaandiobgdaaGreatDoor
open Go.Ab Go.Proofs
set_option maxRecDepth 100000
theorem ZA{h:Hz}{n:Nat}{l:List Int}:jM h.aj n (some ⟨3,0,l.map T.int⟩)=Hz.aj ((n,some (lq l))::h):=by
 rw[bI]; simp[jM,OV.au,Rw.aS,V.aS]
theorem TA{l:List Int}{s:Int}:Gp l s=true↔s∈l:=by
 simp only[Gp,cL,bt];constructor
 ·rintro⟨x,h,rfl⟩; exact h
 ·intro h; exact⟨s,h,rfl⟩
theorem iD{ρ:Nat->Nat}{nx pn c n:Nat}{h:Hz}{s:List Nat}{o:OV}(a:(Nat.blt c nx&&(!(Nat.blt c pn)||Nat.beq n c)&&rF n s&&(o.good nx&&o.zn))=true)(b:(h.get n).map OV.au=some o.au):Nat.blt c nx=true/\(Nat.blt c pn=true->n=c)/\rF n s=true/\o.good nx=true /\
   ∃ o',h.get n=some o'/\o'.au.ty=o.au.ty/\o'.au.k=o.au.k/\dB (T.dF ρ o.au.l) o'.au.l:=by
 simp only[aD,cY,bq] at a;obtain⟨⟨⟨a1,a2⟩,a3⟩,a4,a5⟩:=a;obtain⟨o',b1,b2⟩:=be.1 b;exact⟨a1,fun h=>a2.elim (fun q=>by rw[q] at h; cases h) fO,a3,a4,o',b1,by rw[b2],by rw[b2],by rw[OV.fC a5,b2]; exact .refl _⟩
theorem BI{ρ:Nat->Nat}{nx pn c n:Nat}{h:Hz}{s:List Nat}{o o':OV}(a:(Nat.blt c nx&&(!(Nat.blt c pn)||Nat.beq n c)&&rF n s)=true)(g:o.good nx=true)(b:h.get n=some o')(t:o'.au.ty=o.au.ty/\o'.au.k=o.au.k)(l:dB (T.dF ρ o.au.l) o'.au.l):Nat.blt c nx=true/\(Nat.blt c pn=true->n=c)/\rF n s=true/\o.good nx=true /\
   ∃ o',h.get n=some o'/\o'.au.ty=o.au.ty/\o'.au.k=o.au.k/\dB (T.dF ρ o.au.l) o'.au.l:=by
 simp only[aD,cY,bq] at a;obtain⟨⟨a1,a2⟩,a3⟩:=a;exact⟨a1,fun h=>a2.elim (fun q=>by rw[q] at h; cases h) fO,a3,g,o',b,t.1,t.2,l⟩
theorem okF{ρ:Nat->Nat}{nx pn c n:Nat}{h:Hz}{s:List Nat}{o o':OV}(q1:Nat.blt c nx=true)(q2:Nat.blt c pn=true->n=c)(q3:rF n s=true)(q4:(o.good nx&&o.zn)=true)(q5:h.get n=some o')
  (q6:o'.au.ty=o.au.ty/\o'.au.k=o.au.k) (q7:o.au.l=o'.au.l):Nat.blt c nx=true/\(Nat.blt c pn=true->n=c)/\rF n s=true/\o.good nx=true /\
   ∃ o',h.get n=some o'/\o'.au.ty=o.au.ty/\o'.au.k=o.au.k/\dB (T.dF ρ o.au.l) o'.au.l:=by
 rw[aD] at q4;exact⟨q1,q2,q3,q4.1,o',q5,q6.1,q6.2,dB.of_eq ((OV.fC q4.2 ρ).trans q7)⟩
theorem bz{c:Bool}{a b:Int}(ha:c=true->a≠0)(h:(bif c then a else b)=0):c=false/\b=0:=by
 cases c with
 |true=>exact absurd h (ha rfl)
 |false=>exact⟨rfl,h⟩
theorem nz{a:Int}(h:(a !=0)=true):a≠0:=by simpa using h
theorem jX: ∀ {l:List Int},bP l=0-> ∀ x∈l,x=0:=by
 intro l;induction l with
 |nil=>intro _ x h; cases h
 |cons a r ih =>
  intro h x hx;simp only[bP] at h;split at h
  ·rename_i h0;rcases bv.1 hx with rfl|hx
   ·exact h0
   ·exact ih h x hx
  ·rename_i h0; exact absurd h h0
structure Ho(p:aF):Prop where
 pos:0<p.states.length
 states:p.states.length<=6
 values:p.values.length<=3
 X3:p.rules.length<=8
 init:jP p.initial p.states.length=0
 start:p.initial≠[]
 rule: ∀ i,i<p.rules.length->iW p i=0
theorem Dv{p:aF}(h:bV p=0):Ho p:=by
 unfold bV at h;obtain⟨_,h⟩:=bz (fun _=>by decide) h;obtain⟨_,h⟩:=bz (fun _=>by decide) h;obtain⟨h0,h⟩:=bz (fun _=>by decide) h;obtain⟨h1,h⟩:=bz (fun _=>by decide) h;obtain⟨_,h⟩:=bz nz h;obtain⟨_,h⟩:=bz (fun _=>by decide) h;obtain⟨_,h⟩:=bz (fun _=>by decide) h;obtain⟨h2,h⟩:=bz nz h;obtain⟨h3,h⟩:=bz nz h;have h2':BM p=0:=by simpa using h2
 have h3':Hq p=0:=by simpa using h3
 have g:=jX h2';simp only[zo,bk,bA] at h1;refine⟨?_,by omega,by omega,by omega,g _ (by simp),?_,fun i hi=>?_⟩
 ·have:(p.states.length:Int)≠0:=by simpa using h0
  omega
 ·intro e;have:=g (fA ((p.initial.length:Int)==0) 1) (by simp);rw[e] at this; exact absurd this (by decide)
 ·exact jX h3' _ (ax.2 ⟨i,by simpa using hi,rfl⟩)
theorem xH{x:Int}{n:Nat}(h:tu x n=false):0<=x/\x<n:=by
 simp only[tu,bk,bA] at h; omega
theorem Dw{x:Int}{n:Nat}(h:dK x n=0):0<=x/\x<n:=by
 refine xH ?_;unfold dK fA at h;cases hb:tu x n with
 |false=>rfl
 |true=>rw[hb] at h; exact absurd h (by decide)
theorem BN{l:List Int}{n:Nat}(h:jP l n=0):vX n l:=by
 unfold jP at h;obtain⟨h,_⟩:=bz (fun _=>by decide) h;rw[cq] at h;exact fun q hq=>xH (by simpa using h q hq)
theorem Vl{n:Nat}: ∀ {l:List Int},uI l n=0->vX n l:=by
 intro l;induction l with
 |nil=>intro _ q h; cases h
 |cons x r ih =>
  intro h q hq;simp only[uI] at h;split at h
  ·rename_i h0;rcases bv.1 hq with rfl|hq
   ·exact Dw h0
   ·exact ih h q hq
  ·rename_i h0; exact absurd h h0
theorem abb{k:Int}(h:yF k 1=true):k=1\/k=2\/k=3:=by
 unfold yF at h;cases h1:(k==1) with
 |true=>exact .inl (bt.1 h1)
 |false =>
  cases h2:(k==2) with
  |true=>exact .inr (.inl (bt.1 h2))
  |false =>
   cases h3:(k==3) with
   |true=>exact .inr (.inr (bt.1 h3))
   |false=>rw[h1,h2,h3] at h; cases hb:(k==4||k==5)<;>rw[hb] at h<;>cases h
structure N9(n:Nat)(p:aF)(r:Rule):Prop where
 place:EG n r
 kind:r.kind=1\/r.kind=2\/r.kind=3
 aog:vX n r.all
 ex1:r.kind≠1->r.ex=[]/\r.all=[]
 rd:tu r.read p.values.length=false\/r.read= -1
 wr:tu r.write p.values.length=false\/r.write= -1
theorem wU{p:aF}{v:Int}(h:mQ p v=0):tu v p.values.length=false\/v= -1:=by
 unfold mQ fA at h;have h': ¬ (v< -1\/v>=(p.values.length:Int)):=by
  intro q
  have:(decide (v< -1)||decide (v>=(p.values.length:Int)))=true:=by simpa using q
  rw[this] at h; exact absurd h (by decide)
 by_cases e:v= -1
 ·exact .inr e
 ·left;simp only[tu,bk,bA]; omega
theorem adx{p:aF}{i:Nat}(hv:Ho p)(ht:p.topology=1)(hi:i<p.rules.length):N9 p.states.length p (p.rules.getD i default):=by
 have h:=hv.rule i hi;have hpos:=hv.pos;simp only[iW,uw] at h;generalize (p.rules.getD i default)=r at h ⊢;obtain⟨_,h⟩:=bz (fun _=>by decide) h;obtain⟨hb,h⟩:=bz (fun _=>by decide) h;obtain⟨he,h⟩:=bz nz h;rw[Nq,bk] at he;rw[ht,bk] at hb;have hk:=abb (show yF r.kind 1=true by simpa using hb.1);have hu:oU r 1=false:=by rw[zq (by omega)]; exact hb.2
 have hun:=Ky hu;have hpf:r.kind≠2->r.kind≠5->r.dQ=0/\r.yT=0:=by
  intro k1 k2;simp only[oU,ZB,bk] at hu;have h3:=hu.2.2.1;simp only[cE.2 k1,cE.2 k2,gM,cV,bk] at h3;exact⟨X4 h3.1,X4 h3.2⟩
 have h00:(0:Int)<=0/\(0:Int)<p.states.length:=⟨by omega,by omega⟩
 have pn:vX p.states.length []:=fun q hq=>by cases hq
 rcases hk with e|e|e
 ·rw[e] at h;have g:=jX h;have⟨a,b⟩:=hpf (by omega) (by omega);exact⟨⟨xH he.1,xH he.2,by rw[a]; exact h00,by rw[b]; exact h00,fun q=>by omega,BN (g (jP r.ex p.states.length) (by simp))⟩,.inl e,BN (g (jP r.all p.states.length) (by simp)),fun q=>absurd e q,wU (g (mQ p r.read) (by simp)),wU (g (mQ p r.write) (by simp))⟩
 ·rw[e] at h;have g:=jX h;obtain⟨_,u1,u2,_⟩:=hun.1 (by omega);exact⟨⟨xH he.1,xH he.2,Dw (g (dK r.dQ p.states.length) (by simp)),Dw (g (dK r.yT p.states.length) (by simp)),fun q=>by omega,by rw[u1]; exact pn⟩,.inr (.inl e),by rw[u2]; exact pn,fun _=>⟨u1,u2⟩,wU (g (mQ p r.read) (by simp)),wU (g (mQ p r.write) (by simp))⟩
 ·rw[e] at h;have g:=jX h;have⟨a,b⟩:=hpf (by omega) (by omega);obtain⟨_,u1,u2,_⟩:=hun.1 (by omega);have hr:=g (I5 r.response p.states.length) (by simp);unfold I5 at hr;obtain⟨r1,r2⟩:=bz (fun _=>by decide) hr;exact⟨⟨xH he.1,xH he.2,by rw[a]; exact h00,by rw[b]; exact h00,fun _=>⟨by have q9:(r.response.length:Int)=p.states.length:=(by simpa using r1); omega,Vl r2⟩,by rw[u1]; exact pn⟩,.inr (.inr e),by rw[u2]; exact pn,fun _=>⟨u1,u2⟩,wU (g (mQ p r.read) (by simp)),wU (g (mQ p r.write) (by simp))⟩
theorem abd{p:aF}(h:Bj p=true):p.topology=1:=by
 simp only[Bj,aD,bt] at h; exact h.1.1.1
structure EC(p:aF)(e:Elem):Prop where
 valid:Ho p
 plain:Bj p=true
 len:e.counts.length=p.states.length
 nums:X0 e.counts
 val:0<=e.value/\e.value<max 1 (p.values.length:Int)
theorem abe{p:aF}(h:Oa p=0):bV p=0/\Bj p=true:=by
 unfold Oa at h;obtain⟨h1,h⟩:=bz nz h;obtain⟨h2,_⟩:=bz (fun _=>by decide) h;refine⟨by simpa using h1,?_⟩;simp only[kS] at h2;cases hp:Bj p with
 |true=>rfl
 |false=>rw[hp] at h2; simp at h2
theorem KA{b:Bool}{n:Int}(h:fA b n=0)(hn:n≠0):b=false:=by
 cases b with
 |false=>rfl
 |true=>exact absurd h hn
theorem TB{x:Int}:Ez x=true↔0<=x/\x<=1048576:=by simp[Ez]
theorem ajL{p:aF}{e:Elem}(h:uz p e=false):e.counts.length=p.states.length/\X0 e.counts/\0<=e.value/\e.value<max 1 (p.values.length:Int):=by
 simp only[uz,bk,bA] at h;obtain⟨⟨⟨h1,h2⟩,h3⟩,h4⟩:=h;refine⟨?_,fun x hx=>?_,by omega,by omega⟩
 ·have:(e.counts.length:Int)=p.states.length:=by simpa using h1
  omega
 ·have:e.counts.all Ez=true:=by simpa using h2
  exact TB.1 (bj.1 this x hx)
theorem ajM{p:aF}{e:Elem}(h:Rk p e=0):EC p e:=by
 unfold Rk at h;obtain⟨h1,h⟩:=bz nz h;obtain⟨h2,h3⟩:=abe (by simpa using h1);obtain⟨a,b,c⟩:=ajL (KA h (by decide));exact⟨Dv h2,h3,a,b,c⟩
theorem BO{c:List Int}{i d:Int}:(aV c i d).length=c.length:=by simp[aV]
theorem Rl{c:List Int}{i:Int}:(jc c i).length=c.length:=by simp[jc]
end Go.Proofs.YtdloaandiobgdaaGreatDoor
namespace Go.Proofs.YtdloaandiobgdaaGreatDoor
open Go.Ab Go.Proofs
set_option maxRecDepth 100000
theorem ah.tidy{h:Hz}{i n:Nat}{l:List Elem}{K:V->Hz->Prop}{KW:Nat->V->Hz->Prop}(hi:h.get i=some (dX l))(hn:h.get n=none)(hl:l.length<2^30)(hs:gI l)
  (h1:K (.own i) ((i,some (dX (AA l)))::h)) (h2: ∀ m,K (.rG i 0 (AA l).length) ((i,some (.row 47 3 (.elems (AA l)) (List.replicate m zeroV)))::h)):ah Tryz.prog false none 53 [.own i] h n K KW:=by
 refine ah.ady (ts:=[.own 0]) (S.rH l 1 hl hs) rfl rfl rfl rfl hi hn ?_;rintro t hp (⟨rfl,rfl⟩|⟨m,rfl,rfl⟩)
 ·exact .inl ⟨.own i,dX (AA l),rfl,rfl,rfl,h1⟩
 ·exact .inl ⟨.rG i 0 _,.row 47 3 (.elems (AA l)) (List.replicate m zeroV),rfl,I7 _ _,rfl,h2 m⟩
theorem ay.I8{h:Hz}{k:Nat}{c:Int}:ay (.dD [.row 3 false (.elems []),.int c]) (.dD [.row k true .nil,.int c]) h:=⟨by
 show T.sub (fun _=>True) h.aj (.dD [.sl 3 false [],.int c]) (.dD [.sl k true [],.int c])
 simp[T.sub,T.dY]⟩
end Go.Proofs.YtdloaandiobgdaaGreatDoor
namespace Go.Proofs.YtdloaandiobgdaaGreatDoor
open Go.Ab Go.Proofs
set_option maxRecDepth 100000
theorem jA{a b:List Int}(h:jL a b=true)(i:Nat):a.getD i 0<=b.getD i 0:=by
 obtain⟨h1,h2⟩:=lM.1 h;by_cases hi:i<a.length
 ·exact h2 i hi
 ·rw[show a.getD i 0=0 by simp[List.getD_eq_getElem?_getD,List.getElem?_eq_none (by omega:a.length<=i)],show b.getD i 0=0 by simp[List.getD_eq_getElem?_getD,List.getElem?_eq_none (by omega:b.length<=i)]];exact fp _
theorem qR{c:List Int}{i d:Int}{j:Nat}:(aV c i d).getD j 0=if j=i.toNat/\j<c.length then c.getD j 0+d else c.getD j 0:=by
 unfold aV;rw[ab,List.getElem?_set];by_cases h:i.toNat=j
 ·subst h;by_cases h2:i.toNat<c.length
  ·simp[h2]
  ·simp[h2]
 ·rw[bB h,bB (fun q=>h q.1.symm),ab]
theorem I9{c:List Int}{i:Int}:jc c i=aV c i (-1):=rfl
theorem XY{ex a b:List Int}(h:jL a b=true)(ha: ∀ i,0<=a.getD i 0)(q:uD ex a a.length=true):uD ex b b.length=true:=by
 unfold uD at q ⊢;rw[cY] at q ⊢;rcases q with q|q
 ·exact .inl q
 ·right;rw[sJ] at q ⊢;obtain⟨i,h1,h2⟩:=q;rw[aD] at h2;refine⟨i,by rw[<- (lM.1 h).1]; exact h1,?_⟩;rw[aD];refine⟨?_,h2.2⟩;have h3:a.getD i 0≠0:=by simpa using h2.1
  have h4:=jA h i;have h5:=ha i
  have:b.getD i 0≠0:=by omega
  simpa using this
theorem aa2{c:List Int}{n:Nat}:Bh [] c n=false:=by
 unfold Bh;rw[cq];intro j _;simp
theorem agT: ∀ {l:List Rule} {acc:Bool},l.foldl agU acc=false->acc=false/\ ∀ r∈l,r.all=[]:=by
 intro l;induction l with
 |nil=>intro acc h; exact⟨h,fun r hr=>by cases hr⟩
 |cons x l ih =>
  intro acc h;obtain⟨h1,h2⟩:=ih h;simp only[agU,bk] at h1;refine⟨h1.1,fun r hr=>?_⟩;rcases bv.1 hr with rfl|hr
  ·exact len_nil h1.2
  ·exact h2 r hr
theorem FW{p:aF}(h:(kS p).cover=true):Bj p=true/\ ∀ r∈p.rules,r.all=[]:=by
 simp only[kS,aD,bq] at h;exact⟨h.1,(agT h.2).2⟩
theorem X5{p:aF}{e:Elem}(h1:bV p=0)(h2:(kS p).cover=true)(h3:uz p e=false):Rk p e=0:=by
 have:Oa p=0:=by
  unfold Oa;rw[show(bV p !=0)=false by simp[h1],h2]; rfl
 rw[Rk,this,h3]; rfl
structure lg(q:Prop'):Prop where
 start:q.start.length<2^30
 bad:q.bad.length<2^30
 adjacent:q.adjacent.length<2^30
 goal:q.goal.length<2^30
 cnt: ∀ i,(q.bad.getD i default).states.length<2^30
def tY(c:Cnt):Bool:=((c.states.length:Int)==0||decide (c.least<1))||decide (c.least>3)
def Qu(n:Int)(c:Cnt):Int:=bP [jP c.states n,fA (tY c) 1]
def yI(l:List Cnt)(n:Int):Int:=bP (l.map (Qu n))
def Ja(p:aF)(l:List Int):Int:=bif (l.length:Int)==0 then 0 else bif p.topology==1 then 6 else bif (l.length:Int) !=2 then 1 else bP [dK (l.getD 0 0) p.states.length,dK (l.getD 1 0) p.states.length]
def yJ(q:Prop'):Bool:=((q.kind==1)&&decide ((q.goal.length:Int)>0))||(!(q.kind==1)&&(decide ((q.bad.length:Int)>0)||decide ((q.adjacent.length:Int)>0)))
def gW(p:aF)(q:Prop'):Int :=
 let n:Int:=p.states.length
 bif bV p !=0 then bV p else bif !(validName q.name) then 2 else bif !(q.kind==1)&&q.kind !=2 then 1 else bif yJ q then 1 else
 bif jP q.start n !=0 then jP q.start n else bif q.start.any (fun x=> !(Gp p.initial x)) then 5 else
 bif !(q.kind==1) then bP [jP q.goal n,fA ((q.goal.length:Int)==0) 1] else
 bP [fA (((q.bad.length:Int)==0)&&((q.adjacent.length:Int)==0)) 1,fA (decide ((q.bad.length:Int)>3)) 4,yI q.bad n,Ja p q.adjacent]
theorem S.lC(l:List Cnt)(n:Int)(f:Bool)(hl:l.length<2^30)(hs: ∀ i,(l.getD i default).states.length<2^30):ak Tryz.prog 47 [.row 3 f (.cnts l),.int n] (.int (yI l n)):=by
 refine ak.of Bd.lC (by simp) rfl rfl ?_;refine aG.same [1,8,9] (fun i:Nat=>[(10,.int i)]) (fun i=>i<=l.length/\yI l n=bP ((l.drop i).map (Qu n))) (fun i=>l.length-i) 0 rfl (by decide) rfl (fun _=>rfl) ⟨by omega,by simp[yI]⟩ ⟨⟨_,rfl,rfl⟩,trivial⟩ ?_;refine⟨rfl,?_⟩;rintro i ⟨hi,hall⟩;refine⟨fun h3=>?_,fun h3=>?_⟩
 ·have hi':i<l.length:=by simpa using h3
  rw[dO default hi',bl] at hall;simp only[bP] at hall;have hc:=hs i;refine .mk (by simp only[Rw.rng] at *; omega) ?_;refine ah.pure (S.eH (l.getD i default).states n false (by omega)) rfl ?_;repeat(refine VC.mk (by first|exact id|(intro h; rw[h]; rfl)) ?_)
  refine ah.pure (S.cZ (tY (l.getD i default)) 1) rfl ?_;refine ah.pure (S.bW [jP (l.getD i default).states n,fA (tY (l.getD i default)) 1] true (show 2<2^40 by decide)) rfl ?_;refine⟨fun h4=>?_,fun h4=>?_⟩
  ·conv=>whnf
   refine ay.int ?_;have h4':Qu n (l.getD i default)≠0:=nz h4;rw[hall,bB h4']; rfl
  ·conv=>whnf
   refine .mk (by simp only[okI] at *; omega) ?_;conv=>whnf
   have h4':Qu n (l.getD i default)=0:=II h4;rw[bc h4'] at hall;refine⟨i+1,⟨by omega,hall⟩,by omega,⟨⟨_,rfl,rfl⟩,trivial⟩,?_,rfl⟩;repeat' (first|exact trivial|exact⟨_,rfl,rfl⟩|constructor)
 ·have hi':l.length<=i:=by simpa using h3
  rw[cJ hi'] at hall;exact ay.int (by rw[hall]; rfl)
theorem S.jC(p:aF)(l:List Int)(f:Bool)(_hl:l.length<2^30):ak Tryz.prog 48 [.dat (.fM p),.row 0 f (.ints l)] (.int (Ja p l)):=by
 refine ak.of Bd.jC (by simp) rfl rfl ?_;refine⟨fun h1=>?_,fun h1=>?_⟩
 ·conv=>whnf
  exact ay.int (by rw[Ja,h1]; rfl)
 refine⟨fun h2=>?_,fun h2=>?_⟩
 ·conv=>whnf
  exact ay.int (by rw[Ja,h1,h2]; rfl)
 refine⟨fun h3=>?_,fun h3=>?_⟩
 ·conv=>whnf
  exact ay.int (by rw[Ja,h1,h2,h3]; rfl)
 have h4:l.length=2:=by
  have:(l.length:Int)=2:=by simpa using h3
  omega
 repeat(refine VC.mk (by simp only[Rw.rng] at *; omega) ?_)
 refine ah.pure (S.dA (l.getD 0 0) p.states.length) rfl ?_;refine ah.pure (S.dA (l.getD 1 0) p.states.length) rfl ?_;refine ah.pure (S.bW [dK (l.getD 0 0) p.states.length,dK (l.getD 1 0) p.states.length] true (show 2<2^40 by decide)) rfl ?_;exact ay.int (by rw[Ja,h1,h2,h3]; rfl)
theorem S.dn(p:aF)(q:Prop')(hp:dW p)(hq:lg q):ak Tryz.prog 23 [.dat (.fM p),.dat (.prop q)] (.int (gW p q)):=by
 have g1:=hp.states; have g5:=hp.initial;have q1:=hq.start; have q2:=hq.bad; have q3:=hq.adjacent; have q4:=hq.goal;refine ak.of Bd.dn (by simp) rfl rfl ?_;refine ah.pure (S.gJ p hp) rfl ?_;refine⟨fun h1=>?_,fun h1=>?_⟩
 ·conv=>whnf
  exact ay.int (by rw[gW,h1]; rfl)
 refine ah.pure (S.fP q.name) rfl ?_;refine⟨fun h2=>?_,fun h2=>?_⟩
 ·conv=>whnf
  exact ay.int (by rw[gW,h1,h2]; rfl)
 repeat(refine VC.mk id ?_)
 refine⟨fun h3=>?_,fun h3=>?_⟩
 ·conv=>whnf
  exact ay.int (by rw[gW,h1,h2,h3]; rfl)
 repeat(refine VC.mk id ?_)
 refine⟨fun h4=>?_,fun h4=>?_⟩
 ·conv=>whnf
  refine Fork.mk (fun _=>?_) (fun q=>absurd (q.symm.trans (h4)) aR);exact ay.int (by rw[gW,h1,h2,h3,show yJ q=true by rw[yJ]; erw [h4]; rfl]; rfl)
 repeat(refine VC.mk (by first|exact id|(intro h; simp_all; done)) ?_)
 refine⟨fun h5=>?_,fun h5=>?_⟩
 ·conv=>whnf
  exact ay.int (by rw[gW,h1,h2,h3,show yJ q=true by rw[yJ]; erw [h5]; simp]; rfl)
 have h45:yJ q=false:=by rw[yJ]; erw [h4,h5]; rfl
 refine ah.pure (S.eH q.start p.states.length false (by omega)) rfl ?_;refine⟨fun h6=>?_,fun h6=>?_⟩
 ·conv=>whnf
  exact ay.int (by rw[gW,h1,h2,h3,h45,h6]; rfl)
 refine aG.same [2,3,6,7,65,66] (fun i:Nat=>[(67,.int i)]) (fun i=>i<=q.start.length/\(q.start.take i).any (fun x=> !(Gp p.initial x))=false) (fun i=>q.start.length-i) 0 rfl (by decide) rfl (fun _=>rfl) ⟨by omega,by simp⟩ ⟨⟨_,rfl,rfl⟩,trivial⟩ ?_;refine⟨rfl,?_⟩;rintro i ⟨hi,hall⟩;refine⟨fun h7=>?_,fun h7=>?_⟩
 ·have hi':i<q.start.length:=by simpa using h7
  refine .mk (by simp only[Rw.rng] at *; omega) ?_;refine ah.pure (S.slices_Contains_int p.initial (q.start.getD i 0) false (by omega)) rfl ?_;refine⟨fun h8=>?_,fun h8=>?_⟩
  ·conv=>whnf
   exact ay.int (by rw[gW,h1,h2,h3,h45,h6,lD (d:=0) hi' h8]; rfl)
  ·conv=>whnf
   refine .mk (by simp only[okI] at *; omega) ?_;refine⟨i+1,⟨by omega,?_⟩,by omega,⟨⟨_,rfl,rfl⟩,trivial⟩,?_,rfl⟩
   ·rw[o7 (d:=0) hi' hall]; exact h8
   ·repeat' (first|exact trivial|exact⟨_,rfl,rfl⟩|constructor)
 have hi':q.start.length<=i:=by simpa using h7
 rw[bm hi'] at hall;refine⟨fun h8=>?_,fun h8=>?_⟩
 ·conv=>whnf
  refine ah.pure (S.eH q.goal p.states.length false (by omega)) rfl ?_;refine ah.pure (S.cZ ((q.goal.length:Int)==0) 1) rfl ?_;refine ah.pure (S.bW [jP q.goal p.states.length,fA ((q.goal.length:Int)==0) 1] true (show 2<2^40 by decide)) rfl ?_;exact ay.int (by rw[gW,h1,h2,h3,h45,h6,hall,h8]; rfl)
 repeat(refine VC.mk id ?_)
 refine ah.pure (S.cZ (((q.bad.length:Int)==0)&&((q.adjacent.length:Int)==0)) 1) rfl ?_;refine ah.pure (S.cZ (decide ((q.bad.length:Int)>3)) 4) rfl ?_;refine ah.pure (S.lC q.bad p.states.length false q2 hq.cnt) rfl ?_;refine ah.pure (S.jC p q.adjacent false q3) rfl ?_;refine ah.pure (S.bW [fA (((q.bad.length:Int)==0)&&((q.adjacent.length:Int)==0)) 1,fA (decide ((q.bad.length:Int)>3)) 4,yI q.bad p.states.length,Ja p q.adjacent] true (show 4<2^40 by decide)) rfl ?_;exact ay.int (by rw[gW,h1,h2,h3,h45,h6,hall,h8]; rfl)
theorem S.Dx(l:List Int)(s:Int)(f:Bool)(hl:l.length<2^40):ak Tryz.prog 59 [.row 0 f (.ints l),.int s] (.bool (Gp l s)):=by
 refine ak.of Bd.Dx (by simp) rfl rfl ?_;refine aG.same [0,1] (fun i:Nat=>[(5,.int i)]) (fun i=>i<=l.length/\(l.take i).any (fun x=>s==x)=false) (fun i=>l.length-i) 0 rfl (by decide) rfl (fun _=>rfl) ⟨by omega,by simp⟩ ⟨⟨_,rfl,rfl⟩,trivial⟩ ?_;refine⟨rfl,?_⟩;rintro i ⟨hi,hall⟩;refine⟨fun h3=>?_,fun h3=>?_⟩
 ·have hi':i<l.length:=by simpa using h3
  refine .mk (by simp only[Rw.rng] at *; omega) ?_;refine⟨fun h4=>?_,fun h4=>?_⟩
  ·have h4':(s==l.getD i 0)=true:=by rw[show(s==l.getD i 0)=(l.getD i 0==s) from Bool.beq_comm]; exact h4
   exact ay.bool (lD (d:=0) hi' h4')
  ·have h4':(s==l.getD i 0)=false:=by rw[show(s==l.getD i 0)=(l.getD i 0==s) from Bool.beq_comm]; exact h4
   refine .mk (by simp only[okI] at *; omega) ?_;refine⟨i+1,⟨by omega,?_⟩,by omega,⟨⟨_,rfl,rfl⟩,trivial⟩,?_,rfl⟩
   ·rw[o7 (d:=0) hi' hall]; exact h4'
   ·repeat' (first|exact trivial|exact⟨_,rfl,rfl⟩|constructor)
 ·have hi':l.length<=i:=by simpa using h3
  rw[bm hi'] at hall;exact ay.bool hall
theorem agV{p:aF}{l:List Int}(h1:(decide ((l.length:Int)>0)&&(p.topology==1))=false)(h2:((l.length:Int) !=0&&(l.length:Int) !=2)=false):Ja p l=bif l.any (fun x=>tu x p.states.length) then 5 else 0:=by
 unfold Ja;rcases l with _|⟨a,_|⟨b,_|⟨c,r⟩⟩⟩
 ·rfl
 ·simp at h2
 ·have ht:(p.topology==1)=false:=by simpa using h1
  rw[ht];simp only[bX,cC,gH,List.getD_cons_succ,ez,List.any_nil,fL,dK];cases tu a p.states.length<;>cases tu b p.states.length<;>rfl
 ·simp at h2; omega
theorem X6{c:Cnt}:tY c=((c.states.length:Int)==0|| !(iq c.least 1 3)):=by
 rw[tY,sN,Bool.or_assoc]
theorem S.gX(p:aF)(q:Prop')(hp:dW p)(hq:lg q):ak Tryz.prog 32 [.dat (.fM p),.dat (.prop q)] (.int (gW p q)):=by
 have g1:=hp.states; have g5:=hp.initial;have q1:=hq.start; have q2:=hq.bad; have q3:=hq.adjacent; have q4:=hq.goal;refine ak.of Bd.gX (by simp) rfl rfl ?_;refine ah.pure (S.qg p hp) rfl ?_;refine⟨fun h1=>?_,fun h1=>?_⟩
 ·conv=>whnf
  exact ay.int (by rw[gW,h1]; rfl)
 refine ah.pure (S.jy q.name) rfl ?_;refine⟨fun h2=>?_,fun h2=>?_⟩
 ·conv=>whnf
  exact ay.int (by rw[gW,h1,h2]; rfl)
 repeat(refine VC.mk id ?_)
 refine⟨fun h3=>?_,fun h3=>?_⟩
 ·replace h3:(!(q.kind==1)&&q.kind !=2)=true:=h3;exact ay.int (by rw[gW,h1,h2,h3]; rfl)
 replace h3:(!(q.kind==1)&&q.kind !=2)=false:=h3;have k2:(q.kind==2)= !(q.kind==1):=by
  cases e:(q.kind==1) with
  |true=>rw[bt.1 e]; rfl
  |false=>rw[e] at h3; simpa using h3
 repeat(refine VC.mk (by first|exact id|(intro h; rw[h]; rfl)|(intro h; simp_all; done)) ?_)
 refine⟨fun h4=>?_,fun h4=>?_⟩
 ·rw[k2] at h4;exact ay.int (by rw[gW,h1,h2,h3,show yJ q=true from h4]; rfl)
 rw[k2] at h4;replace h4:yJ q=false:=h4;refine ah.pure (S.jD q.start p.states.length false (by omega) (by omega)) rfl ?_;refine⟨fun h6=>?_,fun h6=>?_⟩
 ·conv=>whnf
  exact ay.int (by rw[gW,h1,h2,h3,h4,h6]; rfl)
 refine aG.same [2,3,6] (fun i:Nat=>[(8,.int i)]) (fun i=>i<=q.start.length/\(q.start.take i).any (fun x=> !(Gp p.initial x))=false) (fun i=>q.start.length-i) 0 rfl (by decide) rfl (fun _=>rfl) ⟨by omega,by simp⟩ ⟨⟨_,rfl,rfl⟩,trivial⟩ ?_;refine⟨rfl,?_⟩;rintro i ⟨hi,hall⟩;refine⟨fun h7=>?_,fun h7=>?_⟩
 ·have hi':i<q.start.length:=by simpa using h7
  refine .mk (by simp only[Rw.rng] at *; omega) ?_;refine ah.pure (S.Dx p.initial (q.start.getD i 0) false (by omega)) rfl ?_;refine⟨fun h8=>?_,fun h8=>?_⟩
  ·conv=>whnf
   exact ay.int (by rw[gW,h1,h2,h3,h4,h6,lD (d:=0) hi' h8]; rfl)
  ·conv=>whnf
   refine .mk (by simp only[okI] at *; omega) ?_;refine⟨i+1,⟨by omega,?_⟩,by omega,⟨⟨_,rfl,rfl⟩,trivial⟩,?_,rfl⟩
   ·rw[o7 (d:=0) hi' hall]; exact h8
   ·repeat' (first|exact trivial|exact⟨_,rfl,rfl⟩|constructor)
 have hi':q.start.length<=i:=by simpa using h7
 rw[bm hi'] at hall;clear h7 hi';refine⟨fun h8=>?_,fun h8=>?_⟩
 ·have h8':(!(q.kind==1))=true:=by rw[<- k2]; exact h8
  have hS:gW p q=bP [jP q.goal p.states.length,fA ((q.goal.length:Int)==0) 1]:=by rw[gW,h1,h2,h3,h4,h6,hall,h8']; rfl
  rw[hS];refine ah.pure (S.jD q.goal p.states.length false (by omega) (by omega)) rfl ?_;refine⟨fun h9=>?_,fun h9=>?_⟩
  ·conv=>whnf
   exact ay.int (fN (nz h9))
  rw[show jP q.goal p.states.length=0 from II h9,f0];refine⟨fun h10=>?_,fun h10=>?_⟩
  ·conv=>whnf
   exact ay.int (by rw[h10]; rfl)
  ·conv=>whnf
   exact ay.int (by rw[h10]; rfl)
 have h8':(!(q.kind==1))=false:=by rw[<- k2]; exact h8
 have hS:gW p q=bP [fA (((q.bad.length:Int)==0)&&((q.adjacent.length:Int)==0)) 1,fA (decide ((q.bad.length:Int)>3)) 4,yI q.bad p.states.length,Ja p q.adjacent]:=by rw[gW,h1,h2,h3,h4,h6,hall,h8']; rfl
 rw[hS];repeat(refine VC.mk id ?_)
 refine⟨fun h9=>?_,fun h9=>?_⟩
 ·conv=>whnf
  exact ay.int (by rw[h9]; rfl)
 rw[h9,ZC];refine⟨fun h10=>?_,fun h10=>?_⟩
 ·conv=>whnf
  exact ay.int (by rw[show decide ((q.bad.length:Int)>3)=true from h10]; rfl)
 rw[show decide ((q.bad.length:Int)>3)=false from h10,ZC];refine aG.same [2,3,6] (fun i:Nat=>[(10,.int i)]) (fun i=>i<=q.bad.length/\yI q.bad p.states.length=bP ((q.bad.drop i).map (Qu p.states.length))) (fun i=>q.bad.length-i) 0 rfl (by decide) rfl (fun _=>rfl) ⟨by omega,by simp[yI]⟩ ⟨⟨_,rfl,rfl⟩,trivial⟩ ?_;refine⟨rfl,?_⟩;rintro j ⟨hj,hcnt⟩;refine⟨fun h11=>?_,fun h11=>?_⟩
 ·have hj':j<q.bad.length:=by simpa using h11
  rw[dO default hj',bl] at hcnt;simp only[bP] at hcnt;have hc:=hq.cnt j;refine .mk (by simp only[Rw.rng] at *; omega) ?_;refine ah.pure (S.jD (q.bad.getD j default).states p.states.length false (by omega) (by omega)) rfl ?_;refine⟨fun h12=>?_,fun h12=>?_⟩
  ·conv=>whnf
   have e1:Qu p.states.length (q.bad.getD j default)=jP (q.bad.getD j default).states p.states.length:=fN (nz h12);rw[e1,bB (nz h12)] at hcnt;exact ay.int (by rw[hcnt,fN (nz h12)])
  have adz:jP (q.bad.getD j default).states p.states.length=0:=II h12;have e1:Qu p.states.length (q.bad.getD j default)=bP [fA (tY (q.bad.getD j default)) 1]:=by rw[Qu,adz,f0]
  rw[e1,X6] at hcnt;repeat(refine VC.mk (by first|exact id|(intro h; (repeat' apply And.intro)<;>first|exact h|omega|(simp only[Rw.vT]; omega)|(simp only[Rw.rng]; omega))|(simp only[Rw.rng] at *; omega)) ?_)
  refine ah.iJ (fun _=>S.aZ (q.bad.getD j default).least 1 3) rfl ?_;repeat(refine VC.mk (by first|exact id|(intro h; rw[h]; rfl)) ?_)
  refine⟨fun h13=>?_,fun h13=>?_⟩
  ·replace h13:(((q.bad.getD j default).states.length:Int)==0|| !(iq (q.bad.getD j default).least 1 3))=true:=h13;rw[h13] at hcnt;exact ay.int (by rw[hcnt]; rfl)
  ·replace h13:(((q.bad.getD j default).states.length:Int)==0|| !(iq (q.bad.getD j default).least 1 3))=false:=h13;rw[h13] at hcnt;refine .mk (by simp only[okI] at *; omega) ?_;refine⟨j+1,⟨by omega,hcnt⟩,by omega,⟨⟨_,rfl,rfl⟩,trivial⟩,?_,rfl⟩;repeat' (first|exact trivial|exact⟨_,rfl,rfl⟩|constructor)
 have hj':q.bad.length<=j:=by simpa using h11
 rw[cJ hj'] at hcnt;rw[hcnt,show bP (List.map (Qu p.states.length) [])=0 from rfl,f0];repeat(refine VC.mk id ?_)
 refine⟨fun h12=>?_,fun h12=>?_⟩
 ·replace h12:(decide ((q.adjacent.length:Int)>0)&&(p.topology==1))=true:=h12;conv=>whnf
  rw[aD] at h12
  have:((q.adjacent.length:Int)==0)=false:=cE.2 (by have:=ag h12.1; omega)
  exact ay.int (by rw[Ja,this,h12.2]; rfl)
 replace h12:(decide ((q.adjacent.length:Int)>0)&&(p.topology==1))=false:=h12;repeat(refine VC.mk id ?_)
 refine⟨fun h13=>?_,fun h13=>?_⟩
 ·replace h13:((q.adjacent.length:Int) !=0&&(q.adjacent.length:Int) !=2)=true:=h13;conv=>whnf
  rw[aD] at h13;have e0:((q.adjacent.length:Int)==0)=false:=by simpa using h13.1
  have e1:(p.topology==1)=false:=by
   rw[cH] at h12;rcases h12 with h12|h12
   ·have:=aM h12
    have:(q.adjacent.length:Int)≠0:=by simpa using e0
    omega
   ·exact h12
  exact ay.int (by rw[Ja,e0,e1,h13.2]; rfl)
 replace h13:((q.adjacent.length:Int) !=0&&(q.adjacent.length:Int) !=2)=false:=h13;rw[agV h12 h13];refine aG.same [2,3,6] (fun i:Nat=>[(12,.int i)]) (fun i=>i<=q.adjacent.length/\(q.adjacent.take i).any (fun x=>tu x p.states.length)=false) (fun i=>q.adjacent.length-i) 0 rfl (by decide) rfl (fun _=>rfl) ⟨by omega,by simp⟩ ⟨⟨_,rfl,rfl⟩,trivial⟩ ?_;refine⟨rfl,?_⟩;rintro k ⟨hk,adA⟩;refine⟨fun h14=>?_,fun h14=>?_⟩
 ·have hk':k<q.adjacent.length:=by simpa using h14
  repeat(refine VC.mk (by simp only[okI,Rw.rng] at *; omega) ?_)
  refine ah.pure (S.aZ (q.adjacent.getD k 0) 0 (p.states.length-1)) rfl ?_;refine⟨fun h15=>?_,fun h15=>?_⟩
  ·replace h15:(!(iq (q.adjacent.getD k 0) 0 (p.states.length-1)))=true:=h15;rw[zu] at h15;exact ay.int (by rw[lD (d:=0) hk' h15]; rfl)
  ·replace h15:(!(iq (q.adjacent.getD k 0) 0 (p.states.length-1)))=false:=h15;rw[zu] at h15;refine .mk (by simp only[okI] at *; omega) ?_;refine⟨k+1,⟨by omega,?_⟩,by omega,⟨⟨_,rfl,rfl⟩,trivial⟩,?_,rfl⟩
   ·rw[o7 (d:=0) hk' adA]; exact h15
   ·repeat' (first|exact trivial|exact⟨_,rfl,rfl⟩|constructor)
 have hk':q.adjacent.length<=k:=by simpa using h14
 rw[bm hk'] at adA;exact ay.int (by rw[adA]; rfl)
theorem ay.ajN{h:Hz}{j:Nat}{l:List Int}(q:h.get j=some (lq l)):ay (.row 0 false (.ints l)) (.own j) h:=⟨zl trivial q⟩
theorem ay.ane{h:Hz}{k k':Nat}{r:Rw}(e:r.len=0):ay (.row k false r) (.row k' true .nil) h:=⟨by
 have:r.aS=[]:=ai (by rw[Rw.fD]; exact e)
 show T.sub (fun _=>True) h.aj (.sl k false r.aS) (.sl k' true [])
 rw[this]; simp[T.sub]⟩
theorem S.Rn(l:List Int)(f:Bool)(hl:l.length<2^30):ak Tryz.prog 49 [.row 0 f (.ints l)] (.row 0 false (.ints l)):=by
 refine ak.of Bd.jQ (by simp) rfl rfl ?_;refine adB.mk (fun hz=>?_) ?_
 ·conv=>whnf
  refine Fork.mk (fun _=>?_) (fun q=>absurd (q.symm.trans ((rfl:true=true))) aR);exact ay.ane hz
 ·conv=>whnf
  refine Fork.mk (fun q=>absurd (q.symm.trans ((rfl:false=false))).symm aR) (fun _=>?_);refine .mk (by simp only[kT,qX,Rw.len]; omega) ?_;repeat(refine VC.mk (by simp only[kT,qX,Rw.len]; omega) ?_)
  exact ay.ajN rfl
theorem S.nZ(l:List Int)(f:Bool)(hl:l.length<2^30):ak Tryz.prog 61 [.row 0 f (.ints l)] (.row 0 false (.ints l)):=by
 refine ak.of Bd.nZ (by simp) rfl rfl ?_;refine .mk (by simp only[kT,qX,Rw.len]; omega) ?_;exact ay.ajN rfl
def fE(p:aF)(q:Prop'):List Int:=bif decide ((q.start.length:Int)>0) then q.start else p.initial
def fB(p:aF)(q:Prop'):Int:=bif gW p q !=0 then gW p q else fA (!(kS p).cover||q.kind !=1) 7
theorem rJ{p:aF}{q:Prop'}(h:gW p q=0):bV p=0:=by
 unfold gW at h;obtain⟨h1,_⟩:=bz nz h;exact II h1
theorem abf{p:aF}{q:Prop'}(h:gW p q=0):fB p q=fA (!(bif bV p !=0 then ZE else kS p).cover||q.kind !=1) 7:=by
 have h2:=rJ h;rw[fB,show(gW p q !=0)=false by simp[h],show(bV p !=0)=false by simp[h2]]; rfl
theorem S.og(p:aF)(q:Prop')(hp:dW p)(hq:lg q):ak Tryz.prog 9 [.dat (.fM p),.dat (.prop q)] (.int (fB p q)):=by
 refine ak.of Bd.og (by simp) rfl rfl ?_;refine ah.pure (S.dn p q hp hq) rfl ?_;refine⟨fun h1=>?_,fun h1=>?_⟩
 ·conv=>whnf
  exact ay.int (by rw[fB,h1]; rfl)
 rw[abf (II h1)];refine ah.pure (S.iK p hp) rfl ?_;repeat(refine VC.mk (by first|exact id|(intro h; rw[h]; rfl)) ?_)
 refine⟨fun h2=>?_,fun h2=>?_⟩
 ·conv=>whnf
  exact ay.int (by rw[h2]; rfl)
 ·conv=>whnf
  exact ay.int (by rw[h2]; rfl)
theorem S.jJ(p:aF)(q:Prop')(hp:dW p)(hq:lg q)(hv:gW p q=0):ak Tryz.prog 26 [.dat (.fM p),.dat (.prop q)] (.dD [.row 0 false (.ints (fE p q)),.int 0]):=by
 have g5:=hp.initial; have q1:=hq.start;refine ak.of Bd.jJ (by simp) rfl rfl ?_;refine ah.pure (S.dn p q hp hq) rfl ?_;refine Fork.mk (fun q=>absurd (q.symm.trans ((by simp[hv]))).symm aR) (fun _=>?_);refine⟨fun h2=>?_,fun h2=>?_⟩
 ·conv=>whnf
  refine ah.pure (S.Rn q.start false q1) rfl ?_;exact ay.eqv (by rw[fE,show decide ((q.start.length:Int)>0)=true from h2]; rfl)
 ·conv=>whnf
  refine ah.pure (S.Rn p.initial false g5) rfl ?_;exact ay.eqv (by rw[fE,show decide ((q.start.length:Int)>0)=false from h2]; rfl)
theorem S.lF(p:aF)(q:Prop')(hp:dW p)(hq:lg q):ak Tryz.prog 33 [.dat (.fM p),.dat (.prop q)] (.row 0 false (.ints (fE p q))):=by
 have g5:=hp.initial; have q1:=hq.start;refine ak.of Bd.lF (by simp) rfl rfl ?_;refine⟨fun h2=>?_,fun h2=>?_⟩
 ·conv=>whnf
  refine ah.pure (S.nZ q.start false q1) rfl ?_;exact ay.eqv (by rw[fE,show decide ((q.start.length:Int)>0)=true from h2]; rfl)
 ·conv=>whnf
  refine ah.pure (S.nZ p.initial false g5) rfl ?_;exact ay.eqv (by rw[fE,show decide ((q.start.length:Int)>0)=false from h2]; rfl)
theorem S.uJ(p:aF)(q:Prop')(hp:dW p)(hq:lg q)(hv:gW p q=0):ak Tryz.prog 15 [.dat (.fM p),.dat (.prop q)] (.dD [.row 0 false (.ints (fE p q)),.int 0]):=by
 refine ak.of Bd.uJ (by simp) rfl rfl ?_;refine ah.pure (S.gX p q hp hq) rfl ?_;refine Fork.mk (fun q=>absurd (q.symm.trans ((by simp[hv]))).symm aR) (fun _=>?_);refine ah.pure (S.lF p q hp hq) rfl ?_;exact ay.eqv rfl
def BJ(p:aF)(q:Prop')(e:Elem):Bool:= !(aa9 e.counts (fE p q))&&(e.value==0)
theorem KC{p:aF}{q:Prop'}(hp:dW p)(hq:lg q):(fE p q).length<2^30:=by
 unfold fE;cases decide ((q.start.length:Int)>0)
 ·exact hp.initial
 ·exact hq.start
theorem S.mM(p:aF)(q:Prop')(e:Elem)(hp:dW p)(hq:lg q)(he:e.counts.length<2^30)(hv:gW p q=0):ak Tryz.prog 11 [.dat (.fM p),.dat (.prop q),.dat (.elem e)] (.bool (BJ p q e)):=by
 have hst:=KC hp hq;refine ak.of Bd.mM (by simp) rfl rfl ?_;refine ah.pure (S.jJ p q hp hq hv) rfl ?_;refine aG.same [5,7,18,19] (fun i:Nat=>[(20,.int i)]) (fun i=>i<=e.counts.length/\(List.range i).any (fun i=>decide (e.counts.getD i 0>0)&& !(Gp (fE p q) i))=false) (fun i=>e.counts.length-i) 0 rfl (by decide) rfl (fun _=>rfl) ⟨by omega,by simp⟩ ⟨⟨_,rfl,rfl⟩,trivial⟩ ?_;refine⟨rfl,?_⟩;rintro i ⟨hi,hall⟩;refine⟨fun h3=>?_,fun h3=>?_⟩
 ·have hi':i<e.counts.length:=by simpa using h3
  repeat(refine VC.mk (by first|exact fun h=>⟨h,h⟩|(simp only[Rw.rng] at *; omega)) ?_)
  refine ah.iJ (fun _=>S.slices_Contains_int (fE p q) i false (by omega)) rfl ?_;repeat(refine VC.mk id ?_)
  refine⟨fun h4=>?_,fun h4=>?_⟩
  ·conv=>whnf
   have:aa9 e.counts (fE p q)=true:=sJ.2 ⟨i,hi',h4⟩
   exact ay.bool (by rw[BJ,this]; rfl)
  ·conv=>whnf
   refine .mk (by simp only[okI] at *; omega) ?_;refine⟨i+1,⟨by omega,?_⟩,by omega,⟨⟨_,rfl,rfl⟩,trivial⟩,?_,rfl⟩
   ·rw[cp,eT,hall];simp only[ez,List.any_nil,fL,cz]; exact h4
   ·repeat' (first|exact trivial|exact⟨_,rfl,rfl⟩|constructor)
 ·have hi':e.counts.length<=i:=by simpa using h3
  have ei:i=e.counts.length:=gT hi hi';subst ei;exact ay.bool (by rw[BJ,show aa9 e.counts (fE p q)=false from hall]; rfl)
theorem rE{p:aF}{q:Prop'}(h:fB p q=0):gW p q=0:=by
 unfold fB at h;obtain⟨h1,_⟩:=bz nz h;exact II h1
end Go.Proofs.YtdloaandiobgdaaGreatDoor
