/-
 A part of the proof. No condition.
-/
import Derived.Test.YtbdbmfccbpfeoabGreatDoorRb
import Derived.Test.YtbdbmfccbpfeoabGreatDoorLg
import Derived.Test.YtbdbmfccbpfeoabGreatDoorKa
namespace Go.Proofs.YtbdbmfccbpfeoabGreatDoor
open Go.Ab Go.Proofs
set_option maxRecDepth 100000
def F6(s:Int):List Int->Nat->Int
 |[],_=> -1
 |x::r,i=>bif s==x then(i:Int) else F6 s r (i+1)
theorem aaE{s:Int}{l:List Int}:decide (0<=F6 s l 0)=l.any fun x=>s==x:=by
 have: ∀ {l:List Int} {i:Nat},0<=F6 s l i↔(l.any fun x=>s==x)=true:=by
  intro l;induction l with
  |nil=>intro i; simp[F6]
  |cons x r ih =>
   intro i;rw[eJ,cS,<- ih (i:=i+1)];show(0:Int)<=(bif s==x then(i:Int) else F6 s r (i+1))↔_;generalize (s==x)=b;cases b<;>simp
 rw[cK,ag]; exact this
theorem S.slices_Index_int(l:List Int)(s:Int)(f:Bool)(hl:l.length<2^40):aj Tryz.prog 60 [.row 0 f (.ints l),.int s] (.int (F6 s l 0)):=by
 refine aj.of Bd.nZ (by simp) rfl rfl ?_;refine aA.same [0,1,6,7] (fun i:Nat=>[(8,.int i)]) (fun i=>i<=l.length/\F6 s l 0=F6 s (l.drop i) i) (fun i=>l.length-i) 0 rfl (by decide) rfl (fun _=>rfl) ⟨by omega,by simp⟩ ⟨⟨_,rfl,rfl⟩,trivial⟩ ?_;refine⟨rfl,?_⟩;rintro i ⟨hi,hall⟩;refine⟨fun h3=>?_,fun h3=>?_⟩
 ·have hi':i<l.length:=by simpa using h3
  rw[bY 0 hi'] at hall;simp only[F6] at hall;refine .mk (by simp only[Rw.rng] at *; omega) ?_;refine⟨fun h4=>?_,fun h4=>?_⟩
  ·conv=>whnf
   refine ak.int ?_;have h4':(s==l.getD i 0)=true:=h4;rw[hall,h4']; rfl
  ·conv=>whnf
   refine .mk (by simp only[okI] at *; omega) ?_;refine⟨i+1,⟨by omega,?_⟩,by omega,⟨⟨_,rfl,rfl⟩,trivial⟩,?_,rfl⟩
   ·have h4':(s==l.getD i 0)=false:=h4;rw[hall,h4']; rfl
   ·repeat' (first|exact trivial|exact⟨_,rfl,rfl⟩|constructor)
 ·conv=>whnf
  refine ak.int ?_;have hi':l.length<=i:=by simpa using h3
  rw[hall,cI hi']; rfl
def JQ(l:List Int)(s:Int):Bool:=l.any fun x=>s==x
theorem S.slices_Contains_int(l:List Int)(s:Int)(f:Bool)(hl:l.length<2^40):aj Tryz.prog 33 [.row 0 f (.ints l),.int s] (.bool (JQ l s)):=by
 refine aj.of Bd.kZ (by simp) rfl rfl ?_;refine ah.pure (S.slices_Index_int l s f hl) rfl ?_;exact ak.bool aaE.symm
theorem S.KR(l:List Int)(s:Int)(f:Bool)(hl:l.length<2^40):aj Tryz.prog 38 [.row 0 f (.ints l),.int s] (.bool (JQ l s)):=by
 refine aj.of Bd.KR (by simp) rfl rfl ?_;refine aA.same [0,1] (fun i:Nat=>[(5,.int i)]) (fun i=>i<=l.length/\(l.take i).any (fun x=>s==x)=false) (fun i=>l.length-i) 0 rfl (by decide) rfl (fun _=>rfl) ⟨by omega,by simp⟩ ⟨⟨_,rfl,rfl⟩,trivial⟩ ?_;refine⟨rfl,?_⟩;rintro i ⟨hi,hall⟩;refine⟨fun h3=>?_,fun h3=>?_⟩
 ·have hi':i<l.length:=by simpa using h3
  refine .mk (by simp only[Rw.rng] at *; omega) ?_;refine⟨fun h4=>?_,fun h4=>?_⟩
  ·have h4':(s==l.getD i 0)=true:=by rw[show(s==l.getD i 0)=(l.getD i 0==s) from Bool.beq_comm]; exact h4
   exact ak.bool (iE (d:=0) hi' h4')
  ·have h4':(s==l.getD i 0)=false:=by rw[show(s==l.getD i 0)=(l.getD i 0==s) from Bool.beq_comm]; exact h4
   refine .mk (by simp only[okI] at *; omega) ?_;refine⟨i+1,⟨by omega,?_⟩,by omega,⟨⟨_,rfl,rfl⟩,trivial⟩,?_,rfl⟩
   ·rw[jU (d:=0) hi' hall]; exact h4'
   ·repeat' (first|exact trivial|exact⟨_,rfl,rfl⟩|constructor)
 ·have hi':l.length<=i:=by simpa using h3
  rw[bB hi'] at hall;exact ak.bool hall
def Jz(c l:List Int):Bool:=l.any fun q=>decide (c.getD q.toNat 0>0)
def qY(n:Nat)(l:List Int):Prop:= ∀ q∈l,0<=q/\q<n
theorem S.BU(c l:List Int)(f g:Bool)(_hc:c.length<2^40)(hl:l.length<2^40)(hp:qY c.length l):aj Tryz.prog 148 [.row 0 f (.ints c),.row 0 g (.ints l)] (.bool (Jz c l)):=by
 refine aj.of Bd.BU (by simp) rfl rfl ?_;refine aA.same [0,1] (fun i:Nat=>[(5,.int i)]) (fun i=>i<=l.length/\(l.take i).any (fun q=>decide (c.getD q.toNat 0>0))=false) (fun i=>l.length-i) 0 rfl (by decide) rfl (fun _=>rfl) ⟨by omega,by simp⟩ ⟨⟨_,rfl,rfl⟩,trivial⟩ ?_;refine⟨rfl,?_⟩;rintro i ⟨hi,hall⟩;refine⟨fun h3=>?_,fun h3=>?_⟩
 ·have hi':i<l.length:=by simpa using h3
  have hq:0<=l.getD i 0/\l.getD i 0<c.length:=by
   rw[show l.getD i 0=l[i] by simp[hi']]; exact hp _ (be hi')
  repeat(refine VC.mk (by simp only[Rw.rng] at *; first|omega|(simp_all; done)|(simp_all; omega)) ?_)
  refine⟨fun h4=>?_,fun h4=>?_⟩
  ·conv=>whnf
   exact ak.bool (iE (d:=0) hi' h4)
  ·conv=>whnf
   refine .mk (by simp only[okI] at *; first|omega|(simp_all; done)|(simp_all; omega)) ?_;refine⟨i+1,⟨by omega,?_⟩,by omega,⟨⟨_,rfl,rfl⟩,trivial⟩,?_,rfl⟩
   ·rw[jU (d:=0) hi' hall]; exact h4
   ·repeat' (first|exact trivial|exact⟨_,rfl,rfl⟩|constructor)
 ·have hi':l.length<=i:=by simpa using h3
  rw[bB hi'] at hall;exact ak.bool hall
def aaF(c l:List Int):Bool:=(List.range c.length).any fun i=>decide (c.getD i 0>0)&& !(JQ l i)
def xg(ex c:List Int)(i:Nat):Bool:=((ex.length:Int)==0)||(List.range i).any fun j=> !(c.getD j 0==0)&&JQ ex j
def BX(al c:List Int)(i:Nat):Bool:=(List.range i).any fun j=> !(c.getD j 0==0)&&(decide ((al.length:Int)>0)&& !(JQ al j))
def qZ(r:Rule)(c:List Int):Bool:= !(BX r.all c c.length)&&xg r.ex c c.length
theorem KT{ex c:List Int}{i:Nat}:xg ex c (i+1)=(xg ex c i||(!(c.getD i 0==0)&&JQ ex i)):=by
 simp only[xg,ck,dq,eJ,List.any_nil,fc,Bool.or_assoc]
theorem KU{al c:List Int}{i:Nat}:BX al c (i+1)=(BX al c i||(!(c.getD i 0==0)&&(decide ((al.length:Int)>0)&& !(JQ al i)))):=by
 simp only[BX,ck,dq,eJ,List.any_nil,fc]
theorem aaG{al c:List Int}{i:Nat}(hi:i<c.length)(h0:(c.getD i 0==0)=false)(h:(decide ((al.length:Int)>0)&& !(JQ al i))=true):BX al c c.length=true :=
 zx.2 ⟨i,hi,by rw[h0,h]; rfl⟩
theorem S.nT(r:Rule)(c:List Int)(f:Bool)(hr:vK r)(hc:c.length<2^40):aj Tryz.prog 134 [.dat (.rule r),.row 0 f (.ints c)] (.bool (qZ r c)):=by
 have g1:=hr.ex; have g2:=hr.all;refine aj.of Bd.nT (by simp) rfl rfl ?_;refine aA.same [2,12,13] (fun i:Nat=>[(14,.int i),(5,.bool (xg r.ex c i))]) (fun i=>i<=c.length/\BX r.all c i=false) (fun i=>c.length-i) 0 rfl (by decide) rfl (fun _=>rfl) ⟨by omega,rfl⟩ ⟨⟨_,rfl,rfl⟩,⟨_,rfl,?_⟩,trivial⟩ ?_
 ·show(V.bool (xg r.ex c 0)).aH=(V.bool ((r.ex.length:Int)==0)).aH;rw[xg]; simp
 refine⟨rfl,?_⟩;rintro i ⟨hi,hall⟩;refine⟨fun h3=>?_,fun h3=>?_⟩
 ·have hi':i<c.length:=by simpa using h3
  refine .mk (by simp only[Rw.rng] at *; omega) ?_;refine⟨fun h4=>?_,fun h4=>?_⟩
  ·replace h4:(c.getD i 0==0)=true:=h4;refine .mk (by simp only[okI] at *; omega) ?_;refine⟨i+1,⟨by omega,by rw[KU,hall,h4]; rfl⟩,by omega,⟨⟨_,rfl,rfl⟩,⟨_,rfl,?_⟩,trivial⟩,?_,rfl⟩
   ·rw[KT,h4]; simp[V.aH]
   ·repeat' (first|exact trivial|exact⟨_,rfl,rfl⟩|constructor)
  ·replace h4:(c.getD i 0==0)=false:=h4;repeat(refine VC.mk (by first|exact id|exact fun h=>⟨h,h⟩) ?_)
   refine ah.gW (fun _=>S.slices_Contains_int r.ex i false (by omega)) rfl ?_;repeat(refine VC.mk (by first|exact id|exact fun h=>⟨h,h⟩|(intro h; rw[h]; rfl)) ?_)
   refine ah.gW (fun _=>S.slices_Contains_int r.all i false (by omega)) rfl ?_;repeat(refine VC.mk id ?_)
   refine⟨fun h5=>?_,fun h5=>?_⟩
   ·conv=>whnf
    exact ak.bool (by rw[qZ,aaG hi' h4 h5]; rfl)
   ·conv=>whnf
    refine .mk (by simp only[okI] at *; omega) ?_;refine⟨i+1,⟨by omega,by rw[KU,hall,h4]; simpa using h5⟩,by omega,⟨⟨_,rfl,rfl⟩,⟨_,rfl,?_⟩,trivial⟩,?_,rfl⟩
    ·rw[KT,h4]; simp[V.aH,sK]
    ·repeat' (first|exact trivial|exact⟨_,rfl,rfl⟩|constructor)
 ·have hi':c.length<=i:=by simpa using h3
  have e:i=c.length:=ep hi hi';subst e;exact ak.bool (by rw[qZ,hall]; rfl)
structure oU(n:Nat)(r:Rule):Prop where
 src:0<=r.fr/\r.fr<n
 dst:0<=r.to/\r.to<n
 ag9:0<=r.jo/\r.jo<n
 aha:0<=r.Ap/\r.Ap<n
 rsp:r.kind=3->r.response.length=n/\qY n r.response
 exs:qY n r.ex
def Oj(c:List Int):Prop:= ∀ x∈c,0<=x/\x<=1048576
def aS(c:List Int)(i d:Int):List Int:=c.set i.toNat (c.getD i.toNat 0+d)
def Ol(c:List Int)(i:Int):List Int:=c.set i.toNat (c.getD i.toNat 0-1)
theorem BA{h:Hz}{j:Nat}{Z:Nat->Prop}{l:List Int}(hz:Z j)(q:h.get j=some (.row 3 0 (.ints l) [])):T.sub Z h.ay (V.row 0 false (.ints l)).aH (V.own j).aH:=by
 show T.sub Z h.ay (.sl 0 false (l.map T.int)) (.own j);simp only[T.sub];refine⟨trivial,hz,?_,by decide,3,?_⟩
 ·rw[gq]; intro t ht; obtain⟨x,_,rfl⟩:=av.1 ht; rfl
 ·have:=aO q;rw[this]; simp[OV.au,Rw.aU,V.aU]
theorem BZ{n:Nat}(h:0<n):(bif isZero (.int n) then some Rw.nil else aaH (n:Int).toNat (T.int 0))=some (.ints (List.replicate n 0)):=by
 cases n with
 |zero=>omega
 |succ k=>rfl
abbrev je(l:List Int):OV:=.row 3 0 (.ints l) []
end Go.Proofs.YtbdbmfccbpfeoabGreatDoor
namespace Go.Proofs.YtbdbmfccbpfeoabGreatDoor
open Go.Ab Go.Proofs
set_option maxRecDepth 100000
theorem J4{l:List Int}{s:Int}:JQ l s=true↔s∈l:=by
 simp only[JQ,bw,bv];constructor
 ·rintro⟨x,h,rfl⟩; exact h
 ·intro h; exact⟨s,h,rfl⟩
theorem found_eq{ex c:List Int}(hc: ∀ i,0<=c.getD i 0)(hx:qY c.length ex):(!(xg ex c c.length))=(decide (0<(ex.length:Int))&& !(Jz c ex)):=by
 have h:xg ex c c.length=(!(decide (0<(ex.length:Int)))||Jz c ex):=by
  rw[xg]
  congr 1
  ·rw[cK]; simp
  ·rw[cK];simp only[Jz,cL,aD,ag,bo,bq,ne_eq,bw,J4];constructor
   ·rintro⟨i,h1,h2,h3⟩;exact⟨i,h3,by have:=hc i; simp only[ap]; omega⟩
   ·rintro⟨q,h1,h2⟩;obtain⟨t1,t2⟩:=hx q h1;have t3:q.toNat<c.length:=by omega
    have t4: ¬ c.getD q.toNat 0=0:=by omega
    exact⟨q.toNat,t3,t4,by rw[Int.toNat_of_nonneg t1]; exact h1⟩
 rw[h]; cases decide (0<(ex.length:Int))<;>cases Jz c ex<;>rfl
theorem FY{ρ:Nat->Nat}{nx pn c n:Nat}{h:Hz}{s:List Nat}{o:OV}(a:(Nat.blt c nx&&(!(Nat.blt c pn)||Nat.beq n c)&&oV n s&&(o.good nx&&o.DX))=true)(b:(h.get n).map OV.au=some o.au):Nat.blt c nx=true/\(Nat.blt c pn=true->n=c)/\oV n s=true/\o.good nx=true /\
   ∃ o',h.get n=some o'/\o'.au.ty=o.au.ty/\o'.au.k=o.au.k/\dJ (T.bK ρ o.au.l) o'.au.l:=by
 simp only[aD,cS,bo] at a;obtain⟨⟨⟨a1,a2⟩,a3⟩,a4,a5⟩:=a;obtain⟨o',b1,b2⟩:=bh.1 b;exact⟨a1,fun h=>a2.elim (fun q=>by rw[q] at h; cases h) fE,a3,a4,o',b1,by rw[b2],by rw[b2],by rw[OV.eF a5,b2]; exact .refl _⟩
theorem okJ{ρ:Nat->Nat}{nx pn c n:Nat}{h:Hz}{s:List Nat}{o o':OV}(a:(Nat.blt c nx&&(!(Nat.blt c pn)||Nat.beq n c)&&oV n s)=true)(g:o.good nx=true)(b:h.get n=some o')(t:o'.au.ty=o.au.ty/\o'.au.k=o.au.k)(l:dJ (T.bK ρ o.au.l) o'.au.l):Nat.blt c nx=true/\(Nat.blt c pn=true->n=c)/\oV n s=true/\o.good nx=true /\
   ∃ o',h.get n=some o'/\o'.au.ty=o.au.ty/\o'.au.k=o.au.k/\dJ (T.bK ρ o.au.l) o'.au.l:=by
 simp only[aD,cS,bo] at a;obtain⟨⟨a1,a2⟩,a3⟩:=a;exact⟨a1,fun h=>a2.elim (fun q=>by rw[q] at h; cases h) fE,a3,g,o',b,t.1,t.2,l⟩
theorem okF{ρ:Nat->Nat}{nx pn c n:Nat}{h:Hz}{s:List Nat}{o o':OV}(q1:Nat.blt c nx=true)(q2:Nat.blt c pn=true->n=c)(q3:oV n s=true)(q4:(o.good nx&&o.DX)=true)(q5:h.get n=some o')
  (q6:o'.au.ty=o.au.ty/\o'.au.k=o.au.k) (q7:o.au.l=o'.au.l):Nat.blt c nx=true/\(Nat.blt c pn=true->n=c)/\oV n s=true/\o.good nx=true /\
   ∃ o',h.get n=some o'/\o'.au.ty=o.au.ty/\o'.au.k=o.au.k/\dJ (T.bK ρ o.au.l) o'.au.l:=by
 rw[aD] at q4;exact⟨q1,q2,q3,q4.1,o',q5,q6.1,q6.2,dJ.of_eq ((OV.eF q4.2 ρ).trans q7)⟩
theorem bz{c:Bool}{a b:Int}(ha:c=true->a≠0)(h:(bif c then a else b)=0):c=false/\b=0:=by
 cases c with
 |true=>exact absurd h (ha rfl)
 |false=>exact⟨rfl,h⟩
theorem nz{a:Int}(h:(a !=0)=true):a≠0:=by simpa using h
theorem lg: ∀ {l:List Int},bC l=0-> ∀ x∈l,x=0:=by
 intro l;induction l with
 |nil=>intro _ x h; cases h
 |cons a r ih =>
  intro h x hx;simp only[bC] at h;split at h
  ·rename_i h0;rcases br.1 hx with rfl|hx
   ·exact h0
   ·exact ih h x hx
  ·rename_i h0; exact absurd h h0
structure Qc(p:aI):Prop where
 pos:0<p.states.length
 states:p.states.length<=6
 values:p.values.length<=3
 aaI:p.rules.length<=8
 init:jf p.initial p.states.length=0
 start:p.initial≠[]
 rule: ∀ i,i<p.rules.length->gZ p i=0
theorem KX{p:aI}(h:bJ p=0):Qc p:=by
 unfold bJ at h;obtain⟨_,h⟩:=bz (fun _=>by decide) h;obtain⟨_,h⟩:=bz (fun _=>by decide) h;obtain⟨h0,h⟩:=bz (fun _=>by decide) h;obtain⟨h1,h⟩:=bz (fun _=>by decide) h;obtain⟨_,h⟩:=bz nz h;obtain⟨_,h⟩:=bz (fun _=>by decide) h;obtain⟨_,h⟩:=bz (fun _=>by decide) h;obtain⟨h2,h⟩:=bz nz h;obtain⟨h3,h⟩:=bz nz h;have h2':zy p=0:=by simpa using h2
 have h3':ER p=0:=by simpa using h3
 have g:=lg h2';simp only[xk,bm,am] at h1;refine⟨?_,by omega,by omega,by omega,g _ (by simp),?_,fun i hi=>?_⟩
 ·have:(p.states.length:Int)≠0:=by simpa using h0
  omega
 ·intro e;have:=g (dR ((p.initial.length:Int)==0) 1) (by simp);rw[e] at this; exact absurd this (by decide)
 ·exact lg h3' _ (av.2 ⟨i,by simpa using hi,rfl⟩)
theorem vZ{x:Int}{n:Nat}(h:pR x n=false):0<=x/\x<n:=by
 simp only[pR,bm,am] at h; omega
theorem ES{x:Int}{n:Nat}(h:dh x n=0):0<=x/\x<n:=by
 refine vZ ?_;unfold dh dR at h;cases hb:pR x n with
 |false=>rfl
 |true=>rw[hb] at h; exact absurd h (by decide)
theorem Iy{l:List Int}{n:Nat}(h:jf l n=0):qY n l:=by
 unfold jf at h;obtain⟨h,_⟩:=bz (fun _=>by decide) h;rw[co] at h;exact fun q hq=>vZ (by simpa using h q hq)
theorem RH{n:Nat}: ∀ {l:List Int},ru l n=0->qY n l:=by
 intro l;induction l with
 |nil=>intro _ q h; cases h
 |cons x r ih =>
  intro h q hq;simp only[ru] at h;split at h
  ·rename_i h0;rcases br.1 hq with rfl|hq
   ·exact ES h0
   ·exact ih h q hq
  ·rename_i h0; exact absurd h h0
theorem YA{k:Int}(h:vX k 1=true):k=1\/k=2\/k=3:=by
 unfold vX at h;cases h1:(k==1) with
 |true=>exact .inl (bv.1 h1)
 |false =>
  cases h2:(k==2) with
  |true=>exact .inr (.inl (bv.1 h2))
  |false =>
   cases h3:(k==3) with
   |true=>exact .inr (.inr (bv.1 h3))
   |false=>rw[h1,h2,h3] at h; cases hb:(k==4||k==5)<;>rw[hb] at h<;>cases h
structure aaJ(n:Nat)(p:aI)(r:Rule):Prop where
 place:oU n r
 kind:r.kind=1\/r.kind=2\/r.kind=3
 aiW:qY n r.all
 ex1:r.kind≠1->r.ex=[]/\r.all=[]
 rd:pR r.read p.values.length=false\/r.read= -1
 wr:pR r.write p.values.length=false\/r.write= -1
theorem uD{p:aI}{v:Int}(h:jV p v=0):pR v p.values.length=false\/v= -1:=by
 unfold jV dR at h;have h': ¬ (v< -1\/v>=(p.values.length:Int)):=by
  intro q
  have:(decide (v< -1)||decide (v>=(p.values.length:Int)))=true:=by simpa using q
  rw[this] at h; exact absurd h (by decide)
 by_cases e:v= -1
 ·exact .inr e
 ·left;simp only[pR,bm,am]; omega
theorem ahb{p:aI}{i:Nat}(hv:Qc p)(ht:p.topology=1)(hi:i<p.rules.length):aaJ p.states.length p (p.rules.getD i default):=by
 have h:=hv.rule i hi;have hpos:=hv.pos;simp only[gZ,sN] at h;generalize (p.rules.getD i default)=r at h ⊢;obtain⟨_,h⟩:=bz (fun _=>by decide) h;obtain⟨hb,h⟩:=bz (fun _=>by decide) h;obtain⟨he,h⟩:=bz nz h;rw[J5,bm] at he;rw[ht,bm] at hb;have hk:=YA (show vX r.kind 1=true by simpa using hb.1);have hu:mO r 1=false:=by rw[Cb (by omega)]; exact hb.2
 have hun:=Om hu;have hpf:r.kind≠2->r.kind≠5->r.jo=0/\r.Ap=0:=by
  intro k1 k2;simp only[mO,Xm,bm] at hu;have h3:=hu.2.2.1;simp only[bq.2 k1,bq.2 k2,f9,cw,bm] at h3;exact⟨Vr h3.1,Vr h3.2⟩
 have h00:(0:Int)<=0/\(0:Int)<p.states.length:=⟨by omega,by omega⟩
 have pn:qY p.states.length []:=fun q hq=>by cases hq
 rcases hk with e|e|e
 ·rw[e] at h;have g:=lg h;have⟨a,b⟩:=hpf (by omega) (by omega);exact⟨⟨vZ he.1,vZ he.2,by rw[a]; exact h00,by rw[b]; exact h00,fun q=>by omega,Iy (g (jf r.ex p.states.length) (by simp))⟩,.inl e,Iy (g (jf r.all p.states.length) (by simp)),fun q=>absurd e q,uD (g (jV p r.read) (by simp)),uD (g (jV p r.write) (by simp))⟩
 ·rw[e] at h;have g:=lg h;obtain⟨_,u1,u2,_⟩:=hun.1 (by omega);exact⟨⟨vZ he.1,vZ he.2,ES (g (dh r.jo p.states.length) (by simp)),ES (g (dh r.Ap p.states.length) (by simp)),fun q=>by omega,by rw[u1]; exact pn⟩,.inr (.inl e),by rw[u2]; exact pn,fun _=>⟨u1,u2⟩,uD (g (jV p r.read) (by simp)),uD (g (jV p r.write) (by simp))⟩
 ·rw[e] at h;have g:=lg h;have⟨a,b⟩:=hpf (by omega) (by omega);obtain⟨_,u1,u2,_⟩:=hun.1 (by omega);have hr:=g (F7 r.response p.states.length) (by simp);unfold F7 at hr;obtain⟨r1,r2⟩:=bz (fun _=>by decide) hr;exact⟨⟨vZ he.1,vZ he.2,by rw[a]; exact h00,by rw[b]; exact h00,fun _=>⟨by have q9:(r.response.length:Int)=p.states.length:=(by simpa using r1); omega,RH r2⟩,by rw[u1]; exact pn⟩,.inr (.inr e),by rw[u2]; exact pn,fun _=>⟨u1,u2⟩,uD (g (jV p r.read) (by simp)),uD (g (jV p r.write) (by simp))⟩
theorem YB{p:aI}(h:sO p=true):p.topology=1:=by
 simp only[sO,aD,bv] at h; exact h.1.1.1
structure BL(p:aI)(e:Elem):Prop where
 valid:Qc p
 plain:sO p=true
 len:e.counts.length=p.states.length
 nums:Oj e.counts
 val:0<=e.value/\e.value<max 1 (p.values.length:Int)
theorem YC{p:aI}(h:YD p=0):bJ p=0/\sO p=true:=by
 unfold YD at h;obtain⟨h1,h⟩:=bz nz h;obtain⟨h2,_⟩:=bz (fun _=>by decide) h;refine⟨by simpa using h1,?_⟩;simp only[kT] at h2;cases hp:sO p with
 |true=>rfl
 |false=>rw[hp] at h2; simp at h2
theorem Iz{b:Bool}{n:Int}(h:dR b n=0)(hn:n≠0):b=false:=by
 cases b with
 |false=>rfl
 |true=>exact absurd h hn
theorem Xn{x:Int}:zu x=true↔0<=x/\x<=1048576:=by simp[zu]
theorem afM{p:aI}{e:Elem}(h:lI p e=false):e.counts.length=p.states.length/\Oj e.counts/\0<=e.value/\e.value<max 1 (p.values.length:Int):=by
 simp only[lI,bm,am] at h;obtain⟨⟨⟨h1,h2⟩,h3⟩,h4⟩:=h;refine⟨?_,fun x hx=>?_,by omega,by omega⟩
 ·have:(e.counts.length:Int)=p.states.length:=by simpa using h1
  omega
 ·have:e.counts.all zu=true:=by simpa using h2
  exact Xn.1 (bu.1 this x hx)
theorem aia{p:aI}{e:Elem}(h:Xo p e=0):BL p e:=by
 unfold Xo at h;obtain⟨h1,h⟩:=bz nz h;obtain⟨h2,h3⟩:=YC (by simpa using h1);obtain⟨a,b,c⟩:=afM (Iz h (by decide));exact⟨KX h2,h3,a,b,c⟩
theorem zA{c:List Int}{i d:Int}:(aS c i d).length=c.length:=by simp[aS]
end Go.Proofs.YtbdbmfccbpfeoabGreatDoor
namespace Go.Proofs.YtbdbmfccbpfeoabGreatDoor
open Go.Ab Go.Proofs
set_option maxRecDepth 100000
theorem ah.insert{h:Hz}{i n:Nat}{l:List Elem}{e:Elem}{K:V->Hz->Prop}{KW:Nat->V->Hz->Prop}(hi:h.get i=some (aZ l))(hn:h.get n=none)(hl:l.length<2^30)(hs:dS l)(he:e.counts.length<2^30)
  (h1:y5 l e=true->K (.own i) ((i,some (aZ l))::h)) (h2:y5 l e=false->K (.own n) ((n,some (aZ (og l e)))::(i,none)::h)):ah Tryz.prog false none 68 [.own i,.dat (.elem e)] h n K KW:=by
 refine ah.KY (ts:=[.own 0,.dat (.elem e)]) (S.rC l e 1 (by decide) hl hs he) ?_ rfl rfl rfl hi hn ?_
 ·show [T.own i,T.ren _ (gB e)]=[T.own i,gB e];rfl
 ·rintro t hp (⟨a,rfl,rfl⟩|⟨a,rfl,rfl⟩)
  ·exact .inl ⟨.own i,aZ l,rfl,rfl,rfl,h1 a⟩
  ·exact .inr ⟨.own n,aZ (og l e),rfl,rfl,rfl,h2 a⟩
theorem ah.tidy{h:Hz}{i n:Nat}{l:List Elem}{K:V->Hz->Prop}{KW:Nat->V->Hz->Prop}(hi:h.get i=some (aZ l))(hn:h.get n=none)(hl:l.length<2^30)(hs:dS l)
  (h1:K (.own i) ((i,some (aZ (rO l)))::h)) (h2: ∀ m,K (.pU i 0 (rO l).length) ((i,some (.row 50 3 (.elems (rO l)) (List.replicate m zeroV)))::h)):ah Tryz.prog false none 55 [.own i] h n K KW:=by
 refine ah.KY (ts:=[.own 0]) (S.uF l 1 hl hs) rfl rfl rfl rfl hi hn ?_;rintro t hp (⟨rfl,rfl⟩|⟨m,rfl,rfl⟩)
 ·exact .inl ⟨.own i,aZ (rO l),rfl,rfl,rfl,h1⟩
 ·exact .inl ⟨.pU i 0 _,.row 50 3 (.elems (rO l)) (List.replicate m zeroV),rfl,F8 _ _,rfl,h2 m⟩
theorem ak.zB{h:Hz}{k:Nat}{c:Int}:ak (.dQ [.row 3 false (.elems []),.int c]) (.dQ [.row k true .nil,.int c]) h:=⟨by
 show T.sub (fun _=>True) h.ay (.dQ [.sl 3 false [],.int c]) (.dQ [.sl k true [],.int c])
 simp[T.sub,T.dF]⟩
end Go.Proofs.YtbdbmfccbpfeoabGreatDoor
namespace Go.Proofs.YtbdbmfccbpfeoabGreatDoor
open Go.Ab Go.Proofs
set_option maxRecDepth 100000
theorem RI{a b:List Int}(h:ny a b=true)(i:Nat):a.getD i 0<=b.getD i 0:=by
 obtain⟨h1,h2⟩:=nC.1 h;by_cases hi:i<a.length
 ·exact h2 i hi
 ·rw[show a.getD i 0=0 by simp[List.getD_eq_getElem?_getD,List.getElem?_eq_none (by omega:a.length<=i)],show b.getD i 0=0 by simp[List.getD_eq_getElem?_getD,List.getElem?_eq_none (by omega:b.length<=i)]];exact gk _
theorem IB{c:List Int}{i d:Int}{j:Nat}:(aS c i d).getD j 0=if j=i.toNat/\j<c.length then c.getD j 0+d else c.getD j 0:=by
 unfold aS;rw[aR,List.getElem?_set];by_cases h:i.toNat=j
 ·subst h;by_cases h2:i.toNat<c.length
  ·simp[h2]
  ·simp[h2]
 ·rw[bX h,bX (fun q=>h q.1.symm),aR]
theorem adx: ∀ {l:List Rule} {acc:Bool},l.foldl RJ acc=false->acc=false/\ ∀ r∈l,r.all=[]:=by
 intro l;induction l with
 |nil=>intro acc h; exact⟨h,fun r hr=>by cases hr⟩
 |cons x l ih =>
  intro acc h;obtain⟨h1,h2⟩:=ih h;simp only[RJ,bm] at h1;refine⟨h1.1,fun r hr=>?_⟩;rcases br.1 hr with rfl|hr
  ·exact len_nil h1.2
  ·exact h2 r hr
theorem YE{p:aI}(h:(kT p).cover=true):sO p=true/\ ∀ r∈p.rules,r.all=[]:=by
 simp only[kT,aD,bo] at h;exact⟨h.1,(adx h.2).2⟩
theorem Vs{p:aI}{e:Elem}(h1:bJ p=0)(h2:(kT p).cover=true)(h3:lI p e=false):Xo p e=0:=by
 have:YD p=0:=by
  unfold YD;rw[show(bJ p !=0)=false by simp[h1],h2]; rfl
 rw[Xo,this,h3]; rfl
structure jm(q:Prop'):Prop where
 start:q.start.length<2^30
 bad:q.bad.length<2^30
 adjacent:q.adjacent.length<2^30
 goal:q.goal.length<2^30
 cnt: ∀ i,(q.bad.getD i default).states.length<2^30
def qL(c:Cnt):Bool:=((c.states.length:Int)==0||decide (c.least<1))||decide (c.least>3)
def NS(n:Int)(c:Cnt):Int:=bC [jf c.states n,dR (qL c) 1]
def wo(l:List Cnt)(n:Int):Int:=bC (l.map (NS n))
def JR(p:aI)(l:List Int):Int:=bif (l.length:Int)==0 then 0 else bif p.topology==1 then 6 else bif (l.length:Int) !=2 then 1 else bC [dh (l.getD 0 0) p.states.length,dh (l.getD 1 0) p.states.length]
def wu(q:Prop'):Bool:=((q.kind==1)&&decide ((q.goal.length:Int)>0))||(!(q.kind==1)&&(decide ((q.bad.length:Int)>0)||decide ((q.adjacent.length:Int)>0)))
def jJ(p:aI)(q:Prop'):Int :=
 let n:Int:=p.states.length
 bif bJ p !=0 then bJ p else bif !(validName q.name) then 2 else bif !(q.kind==1)&&q.kind !=2 then 1 else bif wu q then 1 else
 bif jf q.start n !=0 then jf q.start n else bif q.start.any (fun x=> !(JQ p.initial x)) then 5 else
 bif !(q.kind==1) then bC [jf q.goal n,dR ((q.goal.length:Int)==0) 1] else
 bC [dR (((q.bad.length:Int)==0)&&((q.adjacent.length:Int)==0)) 1,dR (decide ((q.bad.length:Int)>3)) 4,wo q.bad n,JR p q.adjacent]
theorem S.nD(l:List Cnt)(n:Int)(f:Bool)(hl:l.length<2^30)(hs: ∀ i,(l.getD i default).states.length<2^30):aj Tryz.prog 48 [.row 3 f (.cnts l),.int n] (.int (wo l n)):=by
 refine aj.of Bd.nD (by simp) rfl rfl ?_;refine aA.same [1,8,9] (fun i:Nat=>[(10,.int i)]) (fun i=>i<=l.length/\wo l n=bC ((l.drop i).map (NS n))) (fun i=>l.length-i) 0 rfl (by decide) rfl (fun _=>rfl) ⟨by omega,by simp[wo]⟩ ⟨⟨_,rfl,rfl⟩,trivial⟩ ?_;refine⟨rfl,?_⟩;rintro i ⟨hi,hall⟩;refine⟨fun h3=>?_,fun h3=>?_⟩
 ·have hi':i<l.length:=by simpa using h3
  rw[bY default hi',cG] at hall;simp only[bC] at hall;have hc:=hs i;refine .mk (by simp only[Rw.rng] at *; omega) ?_;refine ah.pure (S.fA (l.getD i default).states n false (by omega)) rfl ?_;repeat(refine VC.mk (by first|exact id|(intro h; rw[h]; rfl)) ?_)
  refine ah.pure (S.bT (qL (l.getD i default)) 1) rfl ?_;refine ah.pure (S.bM [jf (l.getD i default).states n,dR (qL (l.getD i default)) 1] true (show 2<2^40 by decide)) rfl ?_;refine⟨fun h4=>?_,fun h4=>?_⟩
  ·conv=>whnf
   refine ak.int ?_;have h4':NS n (l.getD i default)≠0:=nz h4;rw[hall,bX h4']; rfl
  ·conv=>whnf
   refine .mk (by simp only[okI] at *; omega) ?_;conv=>whnf
   have h4':NS n (l.getD i default)=0:=BM h4;rw[bk h4'] at hall;refine⟨i+1,⟨by omega,hall⟩,by omega,⟨⟨_,rfl,rfl⟩,trivial⟩,?_,rfl⟩;repeat' (first|exact trivial|exact⟨_,rfl,rfl⟩|constructor)
 ·have hi':l.length<=i:=by simpa using h3
  rw[cI hi'] at hall;exact ak.int (by rw[hall]; rfl)
theorem S.kU(p:aI)(l:List Int)(f:Bool)(_hl:l.length<2^30):aj Tryz.prog 49 [.dat (.fQ p),.row 0 f (.ints l)] (.int (JR p l)):=by
 refine aj.of Bd.kU (by simp) rfl rfl ?_;refine⟨fun h1=>?_,fun h1=>?_⟩
 ·conv=>whnf
  exact ak.int (by rw[JR,h1]; rfl)
 refine⟨fun h2=>?_,fun h2=>?_⟩
 ·conv=>whnf
  exact ak.int (by rw[JR,h1,h2]; rfl)
 refine⟨fun h3=>?_,fun h3=>?_⟩
 ·conv=>whnf
  exact ak.int (by rw[JR,h1,h2,h3]; rfl)
 have h4:l.length=2:=by
  have:(l.length:Int)=2:=by simpa using h3
  omega
 repeat(refine VC.mk (by simp only[Rw.rng] at *; omega) ?_)
 refine ah.pure (S.bV (l.getD 0 0) p.states.length) rfl ?_;refine ah.pure (S.bV (l.getD 1 0) p.states.length) rfl ?_;refine ah.pure (S.bM [dh (l.getD 0 0) p.states.length,dh (l.getD 1 0) p.states.length] true (show 2<2^40 by decide)) rfl ?_;exact ak.int (by rw[JR,h1,h2,h3]; rfl)
theorem S.eY(p:aI)(q:Prop')(hp:dU p)(hq:jm q):aj Tryz.prog 22 [.dat (.fQ p),.dat (.prop q)] (.int (jJ p q)):=by
 have g1:=hp.states; have g5:=hp.initial;have q1:=hq.start; have q2:=hq.bad; have q3:=hq.adjacent; have q4:=hq.goal;refine aj.of Bd.eY (by simp) rfl rfl ?_;refine ah.pure (S.jw p hp) rfl ?_;refine⟨fun h1=>?_,fun h1=>?_⟩
 ·conv=>whnf
  exact ak.int (by rw[jJ,h1]; rfl)
 refine ah.pure (S.gU q.name) rfl ?_;refine⟨fun h2=>?_,fun h2=>?_⟩
 ·conv=>whnf
  exact ak.int (by rw[jJ,h1,h2]; rfl)
 repeat(refine VC.mk id ?_)
 refine⟨fun h3=>?_,fun h3=>?_⟩
 ·conv=>whnf
  exact ak.int (by rw[jJ,h1,h2,h3]; rfl)
 repeat(refine VC.mk id ?_)
 refine⟨fun h4=>?_,fun h4=>?_⟩
 ·conv=>whnf
  refine Fork.mk (fun _=>?_) (fun q=>absurd (q.symm.trans (h4)) aq);exact ak.int (by rw[jJ,h1,h2,h3,show wu q=true by rw[wu]; erw [h4]; rfl]; rfl)
 repeat(refine VC.mk (by first|exact id|(intro h; simp_all; done)) ?_)
 refine⟨fun h5=>?_,fun h5=>?_⟩
 ·conv=>whnf
  exact ak.int (by rw[jJ,h1,h2,h3,show wu q=true by rw[wu]; erw [h5]; simp]; rfl)
 have h45:wu q=false:=by rw[wu]; erw [h4,h5]; rfl
 refine ah.pure (S.fA q.start p.states.length false (by omega)) rfl ?_;refine⟨fun h6=>?_,fun h6=>?_⟩
 ·conv=>whnf
  exact ak.int (by rw[jJ,h1,h2,h3,h45,h6]; rfl)
 refine aA.same [2,3,6,7,65,66] (fun i:Nat=>[(67,.int i)]) (fun i=>i<=q.start.length/\(q.start.take i).any (fun x=> !(JQ p.initial x))=false) (fun i=>q.start.length-i) 0 rfl (by decide) rfl (fun _=>rfl) ⟨by omega,by simp⟩ ⟨⟨_,rfl,rfl⟩,trivial⟩ ?_;refine⟨rfl,?_⟩;rintro i ⟨hi,hall⟩;refine⟨fun h7=>?_,fun h7=>?_⟩
 ·have hi':i<q.start.length:=by simpa using h7
  refine .mk (by simp only[Rw.rng] at *; omega) ?_;refine ah.pure (S.slices_Contains_int p.initial (q.start.getD i 0) false (by omega)) rfl ?_;refine⟨fun h8=>?_,fun h8=>?_⟩
  ·conv=>whnf
   exact ak.int (by rw[jJ,h1,h2,h3,h45,h6,iE (d:=0) hi' h8]; rfl)
  ·conv=>whnf
   refine .mk (by simp only[okI] at *; omega) ?_;refine⟨i+1,⟨by omega,?_⟩,by omega,⟨⟨_,rfl,rfl⟩,trivial⟩,?_,rfl⟩
   ·rw[jU (d:=0) hi' hall]; exact h8
   ·repeat' (first|exact trivial|exact⟨_,rfl,rfl⟩|constructor)
 have hi':q.start.length<=i:=by simpa using h7
 rw[bB hi'] at hall;refine⟨fun h8=>?_,fun h8=>?_⟩
 ·conv=>whnf
  refine ah.pure (S.fA q.goal p.states.length false (by omega)) rfl ?_;refine ah.pure (S.bT ((q.goal.length:Int)==0) 1) rfl ?_;refine ah.pure (S.bM [jf q.goal p.states.length,dR ((q.goal.length:Int)==0) 1] true (show 2<2^40 by decide)) rfl ?_;exact ak.int (by rw[jJ,h1,h2,h3,h45,h6,hall,h8]; rfl)
 repeat(refine VC.mk id ?_)
 refine ah.pure (S.bT (((q.bad.length:Int)==0)&&((q.adjacent.length:Int)==0)) 1) rfl ?_;refine ah.pure (S.bT (decide ((q.bad.length:Int)>3)) 4) rfl ?_;refine ah.pure (S.nD q.bad p.states.length false q2 hq.cnt) rfl ?_;refine ah.pure (S.kU p q.adjacent false q3) rfl ?_;refine ah.pure (S.bM [dR (((q.bad.length:Int)==0)&&((q.adjacent.length:Int)==0)) 1,dR (decide ((q.bad.length:Int)>3)) 4,wo q.bad p.states.length,JR p q.adjacent] true (show 4<2^40 by decide)) rfl ?_;exact ak.int (by rw[jJ,h1,h2,h3,h45,h6,hall,h8]; rfl)
theorem S.F9(l:List Int)(s:Int)(f:Bool)(hl:l.length<2^40):aj Tryz.prog 91 [.row 0 f (.ints l),.int s] (.bool (JQ l s)):=by
 refine aj.of Bd.F9 (by simp) rfl rfl ?_;refine aA.same [0,1] (fun i:Nat=>[(5,.int i)]) (fun i=>i<=l.length/\(l.take i).any (fun x=>s==x)=false) (fun i=>l.length-i) 0 rfl (by decide) rfl (fun _=>rfl) ⟨by omega,by simp⟩ ⟨⟨_,rfl,rfl⟩,trivial⟩ ?_;refine⟨rfl,?_⟩;rintro i ⟨hi,hall⟩;refine⟨fun h3=>?_,fun h3=>?_⟩
 ·have hi':i<l.length:=by simpa using h3
  refine .mk (by simp only[Rw.rng] at *; omega) ?_;refine⟨fun h4=>?_,fun h4=>?_⟩
  ·have h4':(s==l.getD i 0)=true:=by rw[show(s==l.getD i 0)=(l.getD i 0==s) from Bool.beq_comm]; exact h4
   exact ak.bool (iE (d:=0) hi' h4')
  ·have h4':(s==l.getD i 0)=false:=by rw[show(s==l.getD i 0)=(l.getD i 0==s) from Bool.beq_comm]; exact h4
   refine .mk (by simp only[okI] at *; omega) ?_;refine⟨i+1,⟨by omega,?_⟩,by omega,⟨⟨_,rfl,rfl⟩,trivial⟩,?_,rfl⟩
   ·rw[jU (d:=0) hi' hall]; exact h4'
   ·repeat' (first|exact trivial|exact⟨_,rfl,rfl⟩|constructor)
 ·have hi':l.length<=i:=by simpa using h3
  rw[bB hi'] at hall;exact ak.bool hall
theorem ady{p:aI}{l:List Int}(h1:(decide ((l.length:Int)>0)&&(p.topology==1))=false)(h2:((l.length:Int) !=0&&(l.length:Int) !=2)=false):JR p l=bif l.any (fun x=>pR x p.states.length) then 5 else 0:=by
 unfold JR;rcases l with _|⟨a,_|⟨b,_|⟨c,r⟩⟩⟩
 ·rfl
 ·simp at h2
 ·have ht:(p.topology==1)=false:=by simpa using h1
  rw[ht];simp only[bL,cD,f7,List.getD_cons_succ,eJ,List.any_nil,fc,dh];cases pR a p.states.length<;>cases pR b p.states.length<;>rfl
 ·simp at h2; omega
theorem Vt{c:Cnt}:qL c=((c.states.length:Int)==0|| !(iF c.least 1 3)):=by
 rw[qL,pV,Bool.or_assoc]
theorem S.gX(p:aI)(q:Prop')(hp:dU p)(hq:jm q):aj Tryz.prog 61 [.dat (.fQ p),.dat (.prop q)] (.int (jJ p q)):=by
 have g1:=hp.states; have g5:=hp.initial;have q1:=hq.start; have q2:=hq.bad; have q3:=hq.adjacent; have q4:=hq.goal;refine aj.of Bd.gX (by simp) rfl rfl ?_;refine ah.pure (S.pX p hp) rfl ?_;refine⟨fun h1=>?_,fun h1=>?_⟩
 ·conv=>whnf
  exact ak.int (by rw[jJ,h1]; rfl)
 refine ah.pure (S.jR q.name) rfl ?_;refine⟨fun h2=>?_,fun h2=>?_⟩
 ·conv=>whnf
  exact ak.int (by rw[jJ,h1,h2]; rfl)
 repeat(refine VC.mk id ?_)
 refine⟨fun h3=>?_,fun h3=>?_⟩
 ·replace h3:(!(q.kind==1)&&q.kind !=2)=true:=h3;exact ak.int (by rw[jJ,h1,h2,h3]; rfl)
 replace h3:(!(q.kind==1)&&q.kind !=2)=false:=h3;have k2:(q.kind==2)= !(q.kind==1):=by
  cases e:(q.kind==1) with
  |true=>rw[bv.1 e]; rfl
  |false=>rw[e] at h3; simpa using h3
 repeat(refine VC.mk (by first|exact id|(intro h; rw[h]; rfl)|(intro h; simp_all; done)) ?_)
 refine⟨fun h4=>?_,fun h4=>?_⟩
 ·rw[k2] at h4;exact ak.int (by rw[jJ,h1,h2,h3,show wu q=true from h4]; rfl)
 rw[k2] at h4;replace h4:wu q=false:=h4;refine ah.pure (S.jg q.start p.states.length false (by omega) (by omega)) rfl ?_;refine⟨fun h6=>?_,fun h6=>?_⟩
 ·conv=>whnf
  exact ak.int (by rw[jJ,h1,h2,h3,h4,h6]; rfl)
 refine aA.same [2,3,6] (fun i:Nat=>[(8,.int i)]) (fun i=>i<=q.start.length/\(q.start.take i).any (fun x=> !(JQ p.initial x))=false) (fun i=>q.start.length-i) 0 rfl (by decide) rfl (fun _=>rfl) ⟨by omega,by simp⟩ ⟨⟨_,rfl,rfl⟩,trivial⟩ ?_;refine⟨rfl,?_⟩;rintro i ⟨hi,hall⟩;refine⟨fun h7=>?_,fun h7=>?_⟩
 ·have hi':i<q.start.length:=by simpa using h7
  refine .mk (by simp only[Rw.rng] at *; omega) ?_;refine ah.pure (S.F9 p.initial (q.start.getD i 0) false (by omega)) rfl ?_;refine⟨fun h8=>?_,fun h8=>?_⟩
  ·conv=>whnf
   exact ak.int (by rw[jJ,h1,h2,h3,h4,h6,iE (d:=0) hi' h8]; rfl)
  ·conv=>whnf
   refine .mk (by simp only[okI] at *; omega) ?_;refine⟨i+1,⟨by omega,?_⟩,by omega,⟨⟨_,rfl,rfl⟩,trivial⟩,?_,rfl⟩
   ·rw[jU (d:=0) hi' hall]; exact h8
   ·repeat' (first|exact trivial|exact⟨_,rfl,rfl⟩|constructor)
 have hi':q.start.length<=i:=by simpa using h7
 rw[bB hi'] at hall;clear h7 hi';refine⟨fun h8=>?_,fun h8=>?_⟩
 ·have h8':(!(q.kind==1))=true:=by rw[<- k2]; exact h8
  have hS:jJ p q=bC [jf q.goal p.states.length,dR ((q.goal.length:Int)==0) 1]:=by rw[jJ,h1,h2,h3,h4,h6,hall,h8']; rfl
  rw[hS];refine ah.pure (S.jg q.goal p.states.length false (by omega) (by omega)) rfl ?_;refine⟨fun h9=>?_,fun h9=>?_⟩
  ·conv=>whnf
   exact ak.int (fN (nz h9))
  rw[show jf q.goal p.states.length=0 from BM h9,f0];refine⟨fun h10=>?_,fun h10=>?_⟩
  ·conv=>whnf
   exact ak.int (by rw[h10]; rfl)
  ·conv=>whnf
   exact ak.int (by rw[h10]; rfl)
 have h8':(!(q.kind==1))=false:=by rw[<- k2]; exact h8
 have hS:jJ p q=bC [dR (((q.bad.length:Int)==0)&&((q.adjacent.length:Int)==0)) 1,dR (decide ((q.bad.length:Int)>3)) 4,wo q.bad p.states.length,JR p q.adjacent]:=by rw[jJ,h1,h2,h3,h4,h6,hall,h8']; rfl
 rw[hS];repeat(refine VC.mk id ?_)
 refine⟨fun h9=>?_,fun h9=>?_⟩
 ·conv=>whnf
  exact ak.int (by rw[h9]; rfl)
 rw[h9,Xp];refine⟨fun h10=>?_,fun h10=>?_⟩
 ·conv=>whnf
  exact ak.int (by rw[show decide ((q.bad.length:Int)>3)=true from h10]; rfl)
 rw[show decide ((q.bad.length:Int)>3)=false from h10,Xp];refine aA.same [2,3,6] (fun i:Nat=>[(10,.int i)]) (fun i=>i<=q.bad.length/\wo q.bad p.states.length=bC ((q.bad.drop i).map (NS p.states.length))) (fun i=>q.bad.length-i) 0 rfl (by decide) rfl (fun _=>rfl) ⟨by omega,by simp[wo]⟩ ⟨⟨_,rfl,rfl⟩,trivial⟩ ?_;refine⟨rfl,?_⟩;rintro j ⟨hj,hcnt⟩;refine⟨fun h11=>?_,fun h11=>?_⟩
 ·have hj':j<q.bad.length:=by simpa using h11
  rw[bY default hj',cG] at hcnt;simp only[bC] at hcnt;have hc:=hq.cnt j;refine .mk (by simp only[Rw.rng] at *; omega) ?_;refine ah.pure (S.jg (q.bad.getD j default).states p.states.length false (by omega) (by omega)) rfl ?_;refine⟨fun h12=>?_,fun h12=>?_⟩
  ·conv=>whnf
   have e1:NS p.states.length (q.bad.getD j default)=jf (q.bad.getD j default).states p.states.length:=fN (nz h12);rw[e1,bX (nz h12)] at hcnt;exact ak.int (by rw[hcnt,fN (nz h12)])
  have aaK:jf (q.bad.getD j default).states p.states.length=0:=BM h12;have e1:NS p.states.length (q.bad.getD j default)=bC [dR (qL (q.bad.getD j default)) 1]:=by rw[NS,aaK,f0]
  rw[e1,Vt] at hcnt;repeat(refine VC.mk (by first|exact id|(intro h; (repeat' apply And.intro)<;>first|exact h|omega|(simp only[Rw.qM]; omega)|(simp only[Rw.rng]; omega))|(simp only[Rw.rng] at *; omega)) ?_)
  refine ah.gW (fun _=>S.aY (q.bad.getD j default).least 1 3) rfl ?_;repeat(refine VC.mk (by first|exact id|(intro h; rw[h]; rfl)) ?_)
  refine⟨fun h13=>?_,fun h13=>?_⟩
  ·replace h13:(((q.bad.getD j default).states.length:Int)==0|| !(iF (q.bad.getD j default).least 1 3))=true:=h13;rw[h13] at hcnt;exact ak.int (by rw[hcnt]; rfl)
  ·replace h13:(((q.bad.getD j default).states.length:Int)==0|| !(iF (q.bad.getD j default).least 1 3))=false:=h13;rw[h13] at hcnt;refine .mk (by simp only[okI] at *; omega) ?_;refine⟨j+1,⟨by omega,hcnt⟩,by omega,⟨⟨_,rfl,rfl⟩,trivial⟩,?_,rfl⟩;repeat' (first|exact trivial|exact⟨_,rfl,rfl⟩|constructor)
 have hj':q.bad.length<=j:=by simpa using h11
 rw[cI hj'] at hcnt;rw[hcnt,show bC (List.map (NS p.states.length) [])=0 from rfl,f0];repeat(refine VC.mk id ?_)
 refine⟨fun h12=>?_,fun h12=>?_⟩
 ·replace h12:(decide ((q.adjacent.length:Int)>0)&&(p.topology==1))=true:=h12;conv=>whnf
  rw[aD] at h12
  have:((q.adjacent.length:Int)==0)=false:=bq.2 (by have:=ai h12.1; omega)
  exact ak.int (by rw[JR,this,h12.2]; rfl)
 replace h12:(decide ((q.adjacent.length:Int)>0)&&(p.topology==1))=false:=h12;repeat(refine VC.mk id ?_)
 refine⟨fun h13=>?_,fun h13=>?_⟩
 ·replace h13:((q.adjacent.length:Int) !=0&&(q.adjacent.length:Int) !=2)=true:=h13;conv=>whnf
  rw[aD] at h13;have e0:((q.adjacent.length:Int)==0)=false:=by simpa using h13.1
  have e1:(p.topology==1)=false:=by
   rw[cC] at h12;rcases h12 with h12|h12
   ·have:=aL h12
    have:(q.adjacent.length:Int)≠0:=by simpa using e0
    omega
   ·exact h12
  exact ak.int (by rw[JR,e0,e1,h13.2]; rfl)
 replace h13:((q.adjacent.length:Int) !=0&&(q.adjacent.length:Int) !=2)=false:=h13;rw[ady h12 h13];refine aA.same [2,3,6] (fun i:Nat=>[(12,.int i)]) (fun i=>i<=q.adjacent.length/\(q.adjacent.take i).any (fun x=>pR x p.states.length)=false) (fun i=>q.adjacent.length-i) 0 rfl (by decide) rfl (fun _=>rfl) ⟨by omega,by simp⟩ ⟨⟨_,rfl,rfl⟩,trivial⟩ ?_;refine⟨rfl,?_⟩;rintro k ⟨hk,afN⟩;refine⟨fun h14=>?_,fun h14=>?_⟩
 ·have hk':k<q.adjacent.length:=by simpa using h14
  repeat(refine VC.mk (by simp only[okI,Rw.rng] at *; omega) ?_)
  refine ah.pure (S.aY (q.adjacent.getD k 0) 0 (p.states.length-1)) rfl ?_;refine⟨fun h15=>?_,fun h15=>?_⟩
  ·replace h15:(!(iF (q.adjacent.getD k 0) 0 (p.states.length-1)))=true:=h15;rw[xq] at h15;exact ak.int (by rw[iE (d:=0) hk' h15]; rfl)
  ·replace h15:(!(iF (q.adjacent.getD k 0) 0 (p.states.length-1)))=false:=h15;rw[xq] at h15;refine .mk (by simp only[okI] at *; omega) ?_;refine⟨k+1,⟨by omega,?_⟩,by omega,⟨⟨_,rfl,rfl⟩,trivial⟩,?_,rfl⟩
   ·rw[jU (d:=0) hk' afN]; exact h15
   ·repeat' (first|exact trivial|exact⟨_,rfl,rfl⟩|constructor)
 have hk':q.adjacent.length<=k:=by simpa using h14
 rw[bB hk'] at afN;exact ak.int (by rw[afN]; rfl)
theorem ak.aaL{h:Hz}{j:Nat}{l:List Int}(q:h.get j=some (je l)):ak (.row 0 false (.ints l)) (.own j) h:=⟨BA trivial q⟩
theorem ak.ahc{h:Hz}{k k':Nat}{r:Rw}(e:r.len=0):ak (.row k false r) (.row k' true .nil) h:=⟨by
 have:r.aU=[]:=ao (by rw[Rw.fD]; exact e)
 show T.sub (fun _=>True) h.ay (.sl k false r.aU) (.sl k' true [])
 rw[this]; simp[T.sub]⟩
theorem S.Oo(l:List Int)(f:Bool)(hl:l.length<2^30):aj Tryz.prog 59 [.row 0 f (.ints l)] (.row 0 false (.ints l)):=by
 refine aj.of Bd.oh (by simp) rfl rfl ?_;refine aaM.mk (fun hz=>?_) ?_
 ·conv=>whnf
  refine Fork.mk (fun _=>?_) (fun q=>absurd (q.symm.trans ((rfl:true=true))) aq);exact ak.ahc hz
 ·conv=>whnf
  refine Fork.mk (fun q=>absurd (q.symm.trans ((rfl:false=false))).symm aq) (fun _=>?_);refine .mk (by simp only[jy,jK,Rw.len]; omega) ?_;repeat(refine VC.mk (by simp only[jy,jK,Rw.len]; omega) ?_)
  exact ak.aaL rfl
theorem S.pY(l:List Int)(f:Bool)(hl:l.length<2^30):aj Tryz.prog 97 [.row 0 f (.ints l)] (.row 0 false (.ints l)):=by
 refine aj.of Bd.pY (by simp) rfl rfl ?_;refine .mk (by simp only[jy,jK,Rw.len]; omega) ?_;exact ak.aaL rfl
def ou(p:aI)(q:Prop'):List Int:=bif decide ((q.start.length:Int)>0) then q.start else p.initial
def cZ(p:aI)(q:Prop'):Int:=bif jJ p q !=0 then jJ p q else dR (!(kT p).cover||q.kind !=1) 7
theorem KZ{p:aI}{q:Prop'}(h:jJ p q=0):bJ p=0:=by
 unfold jJ at h;obtain⟨h1,_⟩:=bz nz h;exact BM h1
theorem Oq{p:aI}{q:Prop'}(h:jJ p q=0):cZ p q=dR (!(bif bJ p !=0 then RN else kT p).cover||q.kind !=1) 7:=by
 have h2:=KZ h;rw[cZ,show(jJ p q !=0)=false by simp[h],show(bJ p !=0)=false by simp[h2]]; rfl
theorem S.oW(p:aI)(q:Prop')(hp:dU p)(hq:jm q):aj Tryz.prog 11 [.dat (.fQ p),.dat (.prop q)] (.int (cZ p q)):=by
 refine aj.of Bd.oW (by simp) rfl rfl ?_;refine ah.pure (S.eY p q hp hq) rfl ?_;refine⟨fun h1=>?_,fun h1=>?_⟩
 ·conv=>whnf
  exact ak.int (by rw[cZ,h1]; rfl)
 rw[Oq (BM h1)];refine ah.pure (S.jA p hp) rfl ?_;repeat(refine VC.mk (by first|exact id|(intro h; rw[h]; rfl)) ?_)
 refine⟨fun h2=>?_,fun h2=>?_⟩
 ·conv=>whnf
  exact ak.int (by rw[h2]; rfl)
 ·conv=>whnf
  exact ak.int (by rw[h2]; rfl)
theorem S.zC(p:aI)(q:Prop')(hp:dU p)(hq:jm q):aj Tryz.prog 34 [.dat (.fQ p),.dat (.prop q)] (.int (cZ p q)):=by
 refine aj.of Bd.zC (by simp) rfl rfl ?_;refine ah.pure (S.gX p q hp hq) rfl ?_;refine⟨fun h1=>?_,fun h1=>?_⟩
 ·conv=>whnf
  exact ak.int (by rw[cZ,h1]; rfl)
 rw[Oq (BM h1)];refine ah.pure (S.sQ p hp) rfl ?_;repeat(refine VC.mk (by first|exact id|(intro h; rw[h]; rfl)) ?_)
 refine⟨fun h2=>?_,fun h2=>?_⟩
 ·conv=>whnf
  exact ak.int (by rw[h2]; rfl)
 ·conv=>whnf
  exact ak.int (by rw[h2]; rfl)
theorem S.nG(p:aI)(q:Prop')(hp:dU p)(hq:jm q)(hv:jJ p q=0):aj Tryz.prog 32 [.dat (.fQ p),.dat (.prop q)] (.dQ [.row 0 false (.ints (ou p q)),.int 0]):=by
 have g5:=hp.initial; have q1:=hq.start;refine aj.of Bd.nG (by simp) rfl rfl ?_;refine ah.pure (S.eY p q hp hq) rfl ?_;refine Fork.mk (fun q=>absurd (q.symm.trans ((by simp[hv]))).symm aq) (fun _=>?_);refine⟨fun h2=>?_,fun h2=>?_⟩
 ·conv=>whnf
  refine ah.pure (S.Oo q.start false q1) rfl ?_;exact ak.eqv (by rw[ou,show decide ((q.start.length:Int)>0)=true from h2]; rfl)
 ·conv=>whnf
  refine ah.pure (S.Oo p.initial false g5) rfl ?_;exact ak.eqv (by rw[ou,show decide ((q.start.length:Int)>0)=false from h2]; rfl)
theorem S.nH(p:aI)(q:Prop')(hp:dU p)(hq:jm q):aj Tryz.prog 69 [.dat (.fQ p),.dat (.prop q)] (.row 0 false (.ints (ou p q))):=by
 have g5:=hp.initial; have q1:=hq.start;refine aj.of Bd.nH (by simp) rfl rfl ?_;refine⟨fun h2=>?_,fun h2=>?_⟩
 ·conv=>whnf
  refine ah.pure (S.pY q.start false q1) rfl ?_;exact ak.eqv (by rw[ou,show decide ((q.start.length:Int)>0)=true from h2]; rfl)
 ·conv=>whnf
  refine ah.pure (S.pY p.initial false g5) rfl ?_;exact ak.eqv (by rw[ou,show decide ((q.start.length:Int)>0)=false from h2]; rfl)
theorem S.xu(p:aI)(q:Prop')(hp:dU p)(hq:jm q)(hv:jJ p q=0):aj Tryz.prog 37 [.dat (.fQ p),.dat (.prop q)] (.dQ [.row 0 false (.ints (ou p q)),.int 0]):=by
 refine aj.of Bd.xu (by simp) rfl rfl ?_;refine ah.pure (S.gX p q hp hq) rfl ?_;refine Fork.mk (fun q=>absurd (q.symm.trans ((by simp[hv]))).symm aq) (fun _=>?_);refine ah.pure (S.nH p q hp hq) rfl ?_;exact ak.eqv rfl
def vW(p:aI)(q:Prop')(e:Elem):Bool:= !(aaF e.counts (ou p q))&&(e.value==0)
theorem Ot{p:aI}{q:Prop'}(hp:dU p)(hq:jm q):(ou p q).length<2^30:=by
 unfold ou;cases decide ((q.start.length:Int)>0)
 ·exact hp.initial
 ·exact hq.start
theorem S.nU(p:aI)(q:Prop')(e:Elem)(hp:dU p)(hq:jm q)(he:e.counts.length<2^30)(hv:jJ p q=0):aj Tryz.prog 14 [.dat (.fQ p),.dat (.prop q),.dat (.elem e)] (.bool (vW p q e)):=by
 have hst:=Ot hp hq;refine aj.of Bd.nU (by simp) rfl rfl ?_;refine ah.pure (S.nG p q hp hq hv) rfl ?_;refine aA.same [5,7,18,19] (fun i:Nat=>[(20,.int i)]) (fun i=>i<=e.counts.length/\(List.range i).any (fun i=>decide (e.counts.getD i 0>0)&& !(JQ (ou p q) i))=false) (fun i=>e.counts.length-i) 0 rfl (by decide) rfl (fun _=>rfl) ⟨by omega,by simp⟩ ⟨⟨_,rfl,rfl⟩,trivial⟩ ?_;refine⟨rfl,?_⟩;rintro i ⟨hi,hall⟩;refine⟨fun h3=>?_,fun h3=>?_⟩
 ·have hi':i<e.counts.length:=by simpa using h3
  repeat(refine VC.mk (by first|exact fun h=>⟨h,h⟩|(simp only[Rw.rng] at *; omega)) ?_)
  refine ah.gW (fun _=>S.slices_Contains_int (ou p q) i false (by omega)) rfl ?_;repeat(refine VC.mk id ?_)
  refine⟨fun h4=>?_,fun h4=>?_⟩
  ·conv=>whnf
   have:aaF e.counts (ou p q)=true:=zx.2 ⟨i,hi',h4⟩
   exact ak.bool (by rw[vW,this]; rfl)
  ·conv=>whnf
   refine .mk (by simp only[okI] at *; omega) ?_;refine⟨i+1,⟨by omega,?_⟩,by omega,⟨⟨_,rfl,rfl⟩,trivial⟩,?_,rfl⟩
   ·rw[ck,dq,hall];simp only[eJ,List.any_nil,fc,cr]; exact h4
   ·repeat' (first|exact trivial|exact⟨_,rfl,rfl⟩|constructor)
 ·have hi':e.counts.length<=i:=by simpa using h3
  have ei:i=e.counts.length:=ep hi hi';subst ei;exact ak.bool (by rw[vW,show aaF e.counts (ou p q)=false from hall]; rfl)
theorem S.uU(p:aI)(q:Prop')(e:Elem)(hp:dU p)(hq:jm q)(he:e.counts.length<2^30)(hv:jJ p q=0):aj Tryz.prog 17 [.dat (.fQ p),.dat (.prop q),.dat (.elem e)] (.bool (vW p q e)):=by
 have hst:=Ot hp hq;refine aj.of Bd.uU (by simp) rfl rfl ?_;refine ah.pure (S.xu p q hp hq hv) rfl ?_;refine aA.same [5,7] (fun i:Nat=>[(9,.int i)]) (fun i=>i<=e.counts.length/\(List.range i).any (fun i=>decide (e.counts.getD i 0>0)&& !(JQ (ou p q) i))=false) (fun i=>e.counts.length-i) 0 rfl (by decide) rfl (fun _=>rfl) ⟨by omega,by simp⟩ ⟨⟨_,rfl,rfl⟩,trivial⟩ ?_;refine⟨rfl,?_⟩;rintro i ⟨hi,hall⟩;refine⟨fun h3=>?_,fun h3=>?_⟩
 ·have hi':i<e.counts.length:=by simpa using h3
  repeat(refine VC.mk (by first|exact fun h=>⟨h,h⟩|(simp only[Rw.rng] at *; omega)) ?_)
  refine ah.gW (fun _=>S.KR (ou p q) i false (by omega)) rfl ?_;repeat(refine VC.mk id ?_)
  refine⟨fun h4=>?_,fun h4=>?_⟩
  ·conv=>whnf
   have:aaF e.counts (ou p q)=true:=zx.2 ⟨i,hi',h4⟩
   exact ak.bool (by rw[vW,this]; rfl)
  ·conv=>whnf
   refine .mk (by simp only[okI] at *; omega) ?_;refine⟨i+1,⟨by omega,?_⟩,by omega,⟨⟨_,rfl,rfl⟩,trivial⟩,?_,rfl⟩
   ·rw[ck,dq,hall];simp only[eJ,List.any_nil,fc,cr]; exact h4
   ·repeat' (first|exact trivial|exact⟨_,rfl,rfl⟩|constructor)
 ·have hi':e.counts.length<=i:=by simpa using h3
  have ei:i=e.counts.length:=ep hi hi';subst ei;exact ak.bool (by rw[vW,show aaF e.counts (ou p q)=false from hall]; rfl)
theorem Aq{p:aI}{q:Prop'}(h:cZ p q=0):jJ p q=0:=by
 unfold cZ at h;obtain⟨h1,_⟩:=bz nz h;exact BM h1
end Go.Proofs.YtbdbmfccbpfeoabGreatDoor
