/-
 A part of the proof. No condition.
-/
import Derived.Test.YtkmldgihhaooaaaGreatDoorRb
import Derived.Test.YtkmldgihhaooaaaGreatDoorLg
import Derived.Test.YtkmldgihhaooaaaGreatDoorKa
namespace Go.Proofs.YtkmldgihhaooaaaGreatDoor
open Go.Ab Go.Proofs
set_option maxRecDepth 100000
def FN(s:Int):List Int->Nat->Int
 |[],_=> -1
 |x::r,i=>bif s==x then(i:Int) else FN s r (i+1)
theorem aac{s:Int}{l:List Int}:decide (0<=FN s l 0)=l.any fun x=>s==x:=by
 have: ∀ {l:List Int} {i:Nat},0<=FN s l i↔(l.any fun x=>s==x)=true:=by
  intro l;induction l with
  |nil=>intro i; simp[FN]
  |cons x r ih =>
   intro i;rw[List.any_cons,Bool.or_eq_true,<- ih (i:=i+1)];show(0:Int)<=(bif s==x then(i:Int) else FN s r (i+1))↔_;generalize (s==x)=b;cases b<;>simp
 rw[Bool.eq_iff_iff,decide_eq_true_eq]; exact this
theorem S.slices_Index_int(l:List Int)(s:Int)(f:Bool)(hl:l.length<2^40):ak Tryz.prog 115 [.row 0 f (.ints l),.int s] (.int (FN s l 0)):=by
 refine ak.of Bd.ou (by simp) rfl rfl ?_;refine aA.same [0,1,6,7] (fun i:Nat=>[(8,.int i)]) (fun i=>i<=l.length/\FN s l 0=FN s (l.drop i) i) (fun i=>l.length-i) 0 rfl (by decide) rfl (fun _=>rfl) ⟨by omega,by simp⟩ ⟨⟨_,rfl,rfl⟩,trivial⟩ ?_;refine⟨rfl,?_⟩;rintro i ⟨hi,hall⟩;refine⟨fun h3=>?_,fun h3=>?_⟩
 ·have hi':i<l.length:=by simpa using h3
  rw[bY 0 hi'] at hall;simp only[FN] at hall;refine .mk (by simp only[Rw.rng] at *; omega) ?_;refine⟨fun h4=>?_,fun h4=>?_⟩
  ·conv=>whnf
   refine aj.int ?_;have h4':(s==l.getD i 0)=true:=h4;rw[hall,h4']; rfl
  ·conv=>whnf
   refine .mk (by simp only[okI] at *; omega) ?_;refine⟨i+1,⟨by omega,?_⟩,by omega,⟨⟨_,rfl,rfl⟩,trivial⟩,?_,rfl⟩
   ·have h4':(s==l.getD i 0)=false:=h4;rw[hall,h4']; rfl
   ·repeat' (first|exact trivial|exact⟨_,rfl,rfl⟩|constructor)
 ·conv=>whnf
  refine aj.int ?_;have hi':l.length<=i:=by simpa using h3
  rw[hall,List.drop_eq_nil_of_le hi']; rfl
def Kv(l:List Int)(s:Int):Bool:=l.any fun x=>s==x
theorem S.slices_Contains_int(l:List Int)(s:Int)(f:Bool)(hl:l.length<2^40):ak Tryz.prog 73 [.row 0 f (.ints l),.int s] (.bool (Kv l s)):=by
 refine ak.of Bd.kZ (by simp) rfl rfl ?_;refine ah.pure (S.slices_Index_int l s f hl) rfl ?_;exact aj.bool aac.symm
def Jj(c l:List Int):Bool:=l.any fun q=>decide (c.getD q.toNat 0>0)
def qU(n:Nat)(l:List Int):Prop:= ∀ q∈l,0<=q/\q<n
theorem S.BF(c l:List Int)(f g:Bool)(_hc:c.length<2^40)(hl:l.length<2^40)(hp:qU c.length l):ak Tryz.prog 122 [.row 0 f (.ints c),.row 0 g (.ints l)] (.bool (Jj c l)):=by
 refine ak.of Bd.BF (by simp) rfl rfl ?_;refine aA.same [0,1] (fun i:Nat=>[(5,.int i)]) (fun i=>i<=l.length/\(l.take i).any (fun q=>decide (c.getD q.toNat 0>0))=false) (fun i=>l.length-i) 0 rfl (by decide) rfl (fun _=>rfl) ⟨by omega,by simp⟩ ⟨⟨_,rfl,rfl⟩,trivial⟩ ?_;refine⟨rfl,?_⟩;rintro i ⟨hi,hall⟩;refine⟨fun h3=>?_,fun h3=>?_⟩
 ·have hi':i<l.length:=by simpa using h3
  have hq:0<=l.getD i 0/\l.getD i 0<c.length:=by
   rw[show l.getD i 0=l[i] by simp[hi']]; exact hp _ (List.getElem_mem hi')
  repeat(refine VC.mk (by simp only[Rw.rng] at *; first|omega|(simp_all; done)|(simp_all; omega)) ?_)
  refine⟨fun h4=>?_,fun h4=>?_⟩
  ·conv=>whnf
   exact aj.bool (iQ (d:=0) hi' h4)
  ·conv=>whnf
   refine .mk (by simp only[okI] at *; first|omega|(simp_all; done)|(simp_all; omega)) ?_;refine⟨i+1,⟨by omega,?_⟩,by omega,⟨⟨_,rfl,rfl⟩,trivial⟩,?_,rfl⟩
   ·rw[kS (d:=0) hi' hall]; exact h4
   ·repeat' (first|exact trivial|exact⟨_,rfl,rfl⟩|constructor)
 ·have hi':l.length<=i:=by simpa using h3
  rw[List.take_of_length_le hi'] at hall;exact aj.bool hall
def afe(c l:List Int):Bool:=(List.range c.length).any fun i=>decide (c.getD i 0>0)&& !(Kv l i)
def wU(ex c:List Int)(i:Nat):Bool:=((ex.length:Int)==0)||(List.range i).any fun j=> !(c.getD j 0==0)&&Kv ex j
def BG(al c:List Int)(i:Nat):Bool:=(List.range i).any fun j=> !(c.getD j 0==0)&&(decide ((al.length:Int)>0)&& !(Kv al j))
def qV(r:Rule)(c:List Int):Bool:= !(BG r.all c c.length)&&wU r.ex c c.length
theorem Kw{ex c:List Int}{i:Nat}:wU ex c (i+1)=(wU ex c i||(!(c.getD i 0==0)&&Kv ex i)):=by
 simp only[wU,List.range_succ,List.any_append,List.any_cons,List.any_nil,Bool.or_false,Bool.or_assoc]
theorem Ky{al c:List Int}{i:Nat}:BG al c (i+1)=(BG al c i||(!(c.getD i 0==0)&&(decide ((al.length:Int)>0)&& !(Kv al i)))):=by
 simp only[BG,List.range_succ,List.any_append,List.any_cons,List.any_nil,Bool.or_false]
theorem aad{al c:List Int}{i:Nat}(hi:i<c.length)(h0:(c.getD i 0==0)=false)(h:(decide ((al.length:Int)>0)&& !(Kv al i))=true):BG al c c.length=true :=
 Dy.2 ⟨i,hi,by rw[h0,h]; rfl⟩
theorem S.nY(r:Rule)(c:List Int)(f:Bool)(hr:vG r)(hc:c.length<2^40):ak Tryz.prog 106 [.dat (.rule r),.row 0 f (.ints c)] (.bool (qV r c)):=by
 have g1:=hr.ex; have g2:=hr.all;refine ak.of Bd.nY (by simp) rfl rfl ?_;refine aA.same [2,12,13] (fun i:Nat=>[(14,.int i),(5,.bool (wU r.ex c i))]) (fun i=>i<=c.length/\BG r.all c i=false) (fun i=>c.length-i) 0 rfl (by decide) rfl (fun _=>rfl) ⟨by omega,rfl⟩ ⟨⟨_,rfl,rfl⟩,⟨_,rfl,?_⟩,trivial⟩ ?_
 ·show(V.bool (wU r.ex c 0)).aH=(V.bool ((r.ex.length:Int)==0)).aH;rw[wU]; simp
 refine⟨rfl,?_⟩;rintro i ⟨hi,hall⟩;refine⟨fun h3=>?_,fun h3=>?_⟩
 ·have hi':i<c.length:=by simpa using h3
  refine .mk (by simp only[Rw.rng] at *; omega) ?_;refine⟨fun h4=>?_,fun h4=>?_⟩
  ·replace h4:(c.getD i 0==0)=true:=h4;refine .mk (by simp only[okI] at *; omega) ?_;refine⟨i+1,⟨by omega,by rw[Ky,hall,h4]; rfl⟩,by omega,⟨⟨_,rfl,rfl⟩,⟨_,rfl,?_⟩,trivial⟩,?_,rfl⟩
   ·rw[Kw,h4]; simp[V.aH]
   ·repeat' (first|exact trivial|exact⟨_,rfl,rfl⟩|constructor)
  ·replace h4:(c.getD i 0==0)=false:=h4;repeat(refine VC.mk (by first|exact id|exact fun h=>⟨h,h⟩) ?_)
   refine ah.ig (fun _=>S.slices_Contains_int r.ex i false (by omega)) rfl ?_;repeat(refine VC.mk (by first|exact id|exact fun h=>⟨h,h⟩|(intro h; rw[h]; rfl)) ?_)
   refine ah.ig (fun _=>S.slices_Contains_int r.all i false (by omega)) rfl ?_;repeat(refine VC.mk id ?_)
   refine⟨fun h5=>?_,fun h5=>?_⟩
   ·conv=>whnf
    exact aj.bool (by rw[qV,aad hi' h4 h5]; rfl)
   ·conv=>whnf
    refine .mk (by simp only[okI] at *; omega) ?_;refine⟨i+1,⟨by omega,by rw[Ky,hall,h4]; simpa using h5⟩,by omega,⟨⟨_,rfl,rfl⟩,⟨_,rfl,?_⟩,trivial⟩,?_,rfl⟩
    ·rw[Kw,h4]; simp[V.aH,tY]
    ·repeat' (first|exact trivial|exact⟨_,rfl,rfl⟩|constructor)
 ·have hi':c.length<=i:=by simpa using h3
  have e:i=c.length:=Nat.le_antisymm hi hi';subst e;exact aj.bool (by rw[qV,hall]; rfl)
structure oW(n:Nat)(r:Rule):Prop where
 src:0<=r.fr/\r.fr<n
 dst:0<=r.to/\r.to<n
 agD:0<=r.jh/\r.jh<n
 agE:0<=r.zV/\r.zV<n
 rsp:r.kind=3->r.response.length=n/\qU n r.response
 exs:qU n r.ex
def NM(c:List Int):Prop:= ∀ x∈c,0<=x/\x<=1048576
def aT(c:List Int)(i d:Int):List Int:=c.set i.toNat (c.getD i.toNat 0+d)
def NP(c:List Int)(i:Int):List Int:=c.set i.toNat (c.getD i.toNat 0-1)
theorem AX{h:Hz}{j:Nat}{Z:Nat->Prop}{l:List Int}(hz:Z j)(q:h.get j=some (.row 3 0 (.ints l) [])):T.sub Z h.ay (V.row 0 false (.ints l)).aH (V.own j).aH:=by
 show T.sub Z h.ay (.sl 0 false (l.map T.int)) (.own j);simp only[T.sub];refine⟨trivial,hz,?_,by decide,3,?_⟩
 ·rw[fZ]; intro t ht; obtain⟨x,_,rfl⟩:=List.mem_map.1 ht; rfl
 ·have:=aN q;rw[this]; simp[OV.au,Rw.aU,V.aU]
theorem BH{n:Nat}(h:0<n):(bif isZero (.int n) then some Rw.nil else aae (n:Int).toNat (T.int 0))=some (.ints (List.replicate n 0)):=by
 cases n with
 |zero=>omega
 |succ k=>rfl
abbrev iY(l:List Int):OV:=.row 3 0 (.ints l) []
end Go.Proofs.YtkmldgihhaooaaaGreatDoor
namespace Go.Proofs.YtkmldgihhaooaaaGreatDoor
open Go.Ab Go.Proofs
set_option maxRecDepth 100000
theorem JJ{l:List Int}{s:Int}:Kv l s=true↔s∈l:=by
 simp only[Kv,List.any_eq_true,beq_iff_eq];constructor
 ·rintro⟨x,h,rfl⟩; exact h
 ·intro h; exact⟨s,h,rfl⟩
theorem found_eq{ex c:List Int}(hc: ∀ i,0<=c.getD i 0)(hx:qU c.length ex):(!(wU ex c c.length))=(decide (0<(ex.length:Int))&& !(Jj c ex)):=by
 have h:wU ex c c.length=(!(decide (0<(ex.length:Int)))||Jj c ex):=by
  rw[wU]
  congr 1
  ·rw[Bool.eq_iff_iff]; simp
  ·rw[Bool.eq_iff_iff];simp only[Jj,List.mem_range,Bool.and_eq_true,decide_eq_true_eq,Bool.not_eq_true',beq_eq_false_iff_ne,ne_eq,List.any_eq_true,JJ];constructor
   ·rintro⟨i,h1,h2,h3⟩;exact⟨i,h3,by have:=hc i; simp only[Int.toNat_natCast]; omega⟩
   ·rintro⟨q,h1,h2⟩;obtain⟨t1,t2⟩:=hx q h1;have t3:q.toNat<c.length:=by omega
    have t4: ¬ c.getD q.toNat 0=0:=by omega
    exact⟨q.toNat,t3,t4,by rw[Int.toNat_of_nonneg t1]; exact h1⟩
 rw[h]; cases decide (0<(ex.length:Int))<;>cases Jj c ex<;>rfl
theorem FH{ρ:Nat->Nat}{nx pn c n:Nat}{h:Hz}{s:List Nat}{o:OV}(a:(Nat.blt c nx&&(!(Nat.blt c pn)||Nat.beq n c)&&oZ n s&&(o.good nx&&o.Dz))=true)(b:(h.get n).map OV.au=some o.au):Nat.blt c nx=true/\(Nat.blt c pn=true->n=c)/\oZ n s=true/\o.good nx=true /\
   ∃ o',h.get n=some o'/\o'.au.ty=o.au.ty/\o'.au.k=o.au.k/\dP (T.bJ ρ o.au.l) o'.au.l:=by
 simp only[Bool.and_eq_true,Bool.or_eq_true,Bool.not_eq_true'] at a;obtain⟨⟨⟨a1,a2⟩,a3⟩,a4,a5⟩:=a;obtain⟨o',b1,b2⟩:=Option.map_eq_some_iff.1 b;exact⟨a1,fun h=>a2.elim (fun q=>by rw[q] at h; cases h) fD,a3,a4,o',b1,by rw[b2],by rw[b2],by rw[OV.dY a5,b2]; exact .refl _⟩
theorem okJ{ρ:Nat->Nat}{nx pn c n:Nat}{h:Hz}{s:List Nat}{o o':OV}(a:(Nat.blt c nx&&(!(Nat.blt c pn)||Nat.beq n c)&&oZ n s)=true)(g:o.good nx=true)(b:h.get n=some o')(t:o'.au.ty=o.au.ty/\o'.au.k=o.au.k)(l:dP (T.bJ ρ o.au.l) o'.au.l):Nat.blt c nx=true/\(Nat.blt c pn=true->n=c)/\oZ n s=true/\o.good nx=true /\
   ∃ o',h.get n=some o'/\o'.au.ty=o.au.ty/\o'.au.k=o.au.k/\dP (T.bJ ρ o.au.l) o'.au.l:=by
 simp only[Bool.and_eq_true,Bool.or_eq_true,Bool.not_eq_true'] at a;obtain⟨⟨a1,a2⟩,a3⟩:=a;exact⟨a1,fun h=>a2.elim (fun q=>by rw[q] at h; cases h) fD,a3,g,o',b,t.1,t.2,l⟩
theorem okF{ρ:Nat->Nat}{nx pn c n:Nat}{h:Hz}{s:List Nat}{o o':OV}(q1:Nat.blt c nx=true)(q2:Nat.blt c pn=true->n=c)(q3:oZ n s=true)(q4:(o.good nx&&o.Dz)=true)(q5:h.get n=some o')
  (q6:o'.au.ty=o.au.ty/\o'.au.k=o.au.k) (q7:o.au.l=o'.au.l):Nat.blt c nx=true/\(Nat.blt c pn=true->n=c)/\oZ n s=true/\o.good nx=true /\
   ∃ o',h.get n=some o'/\o'.au.ty=o.au.ty/\o'.au.k=o.au.k/\dP (T.bJ ρ o.au.l) o'.au.l:=by
 rw[Bool.and_eq_true] at q4;exact⟨q1,q2,q3,q4.1,o',q5,q6.1,q6.2,dP.of_eq ((OV.dY q4.2 ρ).trans q7)⟩
theorem bz{c:Bool}{a b:Int}(ha:c=true->a≠0)(h:(bif c then a else b)=0):c=false/\b=0:=by
 cases c with
 |true=>exact absurd h (ha rfl)
 |false=>exact⟨rfl,h⟩
theorem nz{a:Int}(h:(a !=0)=true):a≠0:=by simpa using h
theorem lg: ∀ {l:List Int},bD l=0-> ∀ x∈l,x=0:=by
 intro l;induction l with
 |nil=>intro _ x h; cases h
 |cons a r ih =>
  intro h x hx;simp only[bD] at h;split at h
  ·rename_i h0;rcases List.mem_cons.1 hx with rfl|hx
   ·exact h0
   ·exact ih h x hx
  ·rename_i h0; exact absurd h h0
structure Pq(p:aI):Prop where
 pos:0<p.states.length
 states:p.states.length<=6
 values:p.values.length<=3
 aaf:p.rules.length<=8
 init:iZ p.initial p.states.length=0
 start:p.initial≠[]
 rule: ∀ i,i<p.rules.length->gX p i=0
theorem KA{p:aI}(h:bI p=0):Pq p:=by
 unfold bI at h;obtain⟨_,h⟩:=bz (fun _=>by decide) h;obtain⟨_,h⟩:=bz (fun _=>by decide) h;obtain⟨h0,h⟩:=bz (fun _=>by decide) h;obtain⟨h1,h⟩:=bz (fun _=>by decide) h;obtain⟨_,h⟩:=bz nz h;obtain⟨_,h⟩:=bz (fun _=>by decide) h;obtain⟨_,h⟩:=bz (fun _=>by decide) h;obtain⟨h2,h⟩:=bz nz h;obtain⟨h3,h⟩:=bz nz h;have h2':y5 p=0:=by simpa using h2
 have h3':EF p=0:=by simpa using h3
 have g:=lg h2';simp only[wV,Bool.or_eq_false_iff,decide_eq_false_iff_not] at h1;refine⟨?_,by omega,by omega,by omega,g _ (by simp),?_,fun i hi=>?_⟩
 ·have:(p.states.length:Int)≠0:=by simpa using h0
  omega
 ·intro e;have:=g (dQ ((p.initial.length:Int)==0) 1) (by simp);rw[e] at this; exact absurd this (by decide)
 ·exact lg h3' _ (List.mem_map.2 ⟨i,by simpa using hi,rfl⟩)
theorem vT{x:Int}{n:Nat}(h:pR x n=false):0<=x/\x<n:=by
 simp only[pR,Bool.or_eq_false_iff,decide_eq_false_iff_not] at h; omega
theorem EG{x:Int}{n:Nat}(h:cZ x n=0):0<=x/\x<n:=by
 refine vT ?_;unfold cZ dQ at h;cases hb:pR x n with
 |false=>rfl
 |true=>rw[hb] at h; exact absurd h (by decide)
theorem Ia{l:List Int}{n:Nat}(h:iZ l n=0):qU n l:=by
 unfold iZ at h;obtain⟨h,_⟩:=bz (fun _=>by decide) h;rw[List.any_eq_false] at h;exact fun q hq=>vT (by simpa using h q hq)
theorem QW{n:Nat}: ∀ {l:List Int},qW l n=0->qU n l:=by
 intro l;induction l with
 |nil=>intro _ q h; cases h
 |cons x r ih =>
  intro h q hq;simp only[qW] at h;split at h
  ·rename_i h0;rcases List.mem_cons.1 hq with rfl|hq
   ·exact EG h0
   ·exact ih h q hq
  ·rename_i h0; exact absurd h h0
theorem X4{k:Int}(h:vP k 1=true):k=1\/k=2\/k=3:=by
 unfold vP at h;cases h1:(k==1) with
 |true=>exact .inl (beq_iff_eq.1 h1)
 |false =>
  cases h2:(k==2) with
  |true=>exact .inr (.inl (beq_iff_eq.1 h2))
  |false =>
   cases h3:(k==3) with
   |true=>exact .inr (.inr (beq_iff_eq.1 h3))
   |false=>rw[h1,h2,h3] at h; cases hb:(k==4||k==5)<;>rw[hb] at h<;>cases h
structure aag(n:Nat)(p:aI)(r:Rule):Prop where
 place:oW n r
 kind:r.kind=1\/r.kind=2\/r.kind=3
 aio:qU n r.all
 ex1:r.kind≠1->r.ex=[]/\r.all=[]
 rd:pR r.read p.values.length=false\/r.read= -1
 wr:pR r.write p.values.length=false\/r.write= -1
theorem um{p:aI}{v:Int}(h:jT p v=0):pR v p.values.length=false\/v= -1:=by
 unfold jT dQ at h;have h': ¬ (v< -1\/v>=(p.values.length:Int)):=by
  intro q
  have:(decide (v< -1)||decide (v>=(p.values.length:Int)))=true:=by simpa using q
  rw[this] at h; exact absurd h (by decide)
 by_cases e:v= -1
 ·exact .inr e
 ·left;simp only[pR,Bool.or_eq_false_iff,decide_eq_false_iff_not]; omega
theorem agF{p:aI}{i:Nat}(hv:Pq p)(ht:p.topology=1)(hi:i<p.rules.length):aag p.states.length p (p.rules.getD i default):=by
 have h:=hv.rule i hi;have hpos:=hv.pos;simp only[gX,rZ] at h;generalize (p.rules.getD i default)=r at h ⊢;obtain⟨_,h⟩:=bz (fun _=>by decide) h;obtain⟨hb,h⟩:=bz (fun _=>by decide) h;obtain⟨he,h⟩:=bz nz h;rw[JK,Bool.or_eq_false_iff] at he;rw[ht,Bool.or_eq_false_iff] at hb;have hk:=X4 (show vP r.kind 1=true by simpa using hb.1);have hu:mV r 1=false:=by rw[BI (by omega)]; exact hb.2
 have hun:=NQ hu;have hpf:r.kind≠2->r.kind≠5->r.jh=0/\r.zV=0:=by
  intro k1 k2;simp only[mV,WA,Bool.or_eq_false_iff] at hu;have h3:=hu.2.2.1;simp only[beq_eq_false_iff_ne.2 k1,beq_eq_false_iff_ne.2 k2,Bool.not_false,Bool.true_and,Bool.or_eq_false_iff] at h3;exact⟨UQ h3.1,UQ h3.2⟩
 have h00:(0:Int)<=0/\(0:Int)<p.states.length:=⟨by omega,by omega⟩
 have pn:qU p.states.length []:=fun q hq=>by cases hq
 rcases hk with e|e|e
 ·rw[e] at h;have g:=lg h;have⟨a,b⟩:=hpf (by omega) (by omega);exact⟨⟨vT he.1,vT he.2,by rw[a]; exact h00,by rw[b]; exact h00,fun q=>by omega,Ia (g (iZ r.ex p.states.length) (by simp))⟩,.inl e,Ia (g (iZ r.all p.states.length) (by simp)),fun q=>absurd e q,um (g (jT p r.read) (by simp)),um (g (jT p r.write) (by simp))⟩
 ·rw[e] at h;have g:=lg h;obtain⟨_,u1,u2,_⟩:=hun.1 (by omega);exact⟨⟨vT he.1,vT he.2,EG (g (cZ r.jh p.states.length) (by simp)),EG (g (cZ r.zV p.states.length) (by simp)),fun q=>by omega,by rw[u1]; exact pn⟩,.inr (.inl e),by rw[u2]; exact pn,fun _=>⟨u1,u2⟩,um (g (jT p r.read) (by simp)),um (g (jT p r.write) (by simp))⟩
 ·rw[e] at h;have g:=lg h;have⟨a,b⟩:=hpf (by omega) (by omega);obtain⟨_,u1,u2,_⟩:=hun.1 (by omega);have hr:=g (FP r.response p.states.length) (by simp);unfold FP at hr;obtain⟨r1,r2⟩:=bz (fun _=>by decide) hr;exact⟨⟨vT he.1,vT he.2,by rw[a]; exact h00,by rw[b]; exact h00,fun _=>⟨by have q9:(r.response.length:Int)=p.states.length:=(by simpa using r1); omega,QW r2⟩,by rw[u1]; exact pn⟩,.inr (.inr e),by rw[u2]; exact pn,fun _=>⟨u1,u2⟩,um (g (jT p r.read) (by simp)),um (g (jT p r.write) (by simp))⟩
theorem X5{p:aI}(h:sF p=true):p.topology=1:=by
 simp only[sF,Bool.and_eq_true,beq_iff_eq] at h; exact h.1.1.1
structure Bh(p:aI)(e:Elem):Prop where
 valid:Pq p
 plain:sF p=true
 len:e.counts.length=p.states.length
 nums:NM e.counts
 val:0<=e.value/\e.value<max 1 (p.values.length:Int)
theorem X6{p:aI}(h:X7 p=0):bI p=0/\sF p=true:=by
 unfold X7 at h;obtain⟨h1,h⟩:=bz nz h;obtain⟨h2,_⟩:=bz (fun _=>by decide) h;refine⟨by simpa using h1,?_⟩;simp only[kT] at h2;cases hp:sF p with
 |true=>rfl
 |false=>rw[hp] at h2; simp at h2
theorem Ib{b:Bool}{n:Int}(h:dQ b n=0)(hn:n≠0):b=false:=by
 cases b with
 |false=>rfl
 |true=>exact absurd h hn
theorem WB{x:Int}:AU x=true↔0<=x/\x<=1048576:=by simp[AU]
theorem aff{p:aI}{e:Elem}(h:lH p e=false):e.counts.length=p.states.length/\NM e.counts/\0<=e.value/\e.value<max 1 (p.values.length:Int):=by
 simp only[lH,Bool.or_eq_false_iff,decide_eq_false_iff_not] at h;obtain⟨⟨⟨h1,h2⟩,h3⟩,h4⟩:=h;refine⟨?_,fun x hx=>?_,by omega,by omega⟩
 ·have:(e.counts.length:Int)=p.states.length:=by simpa using h1
  omega
 ·have:e.counts.all AU=true:=by simpa using h2
  exact WB.1 (List.all_eq_true.1 this x hx)
theorem ahD{p:aI}{e:Elem}(h:WC p e=0):Bh p e:=by
 unfold WC at h;obtain⟨h1,h⟩:=bz nz h;obtain⟨h2,h3⟩:=X6 (by simpa using h1);obtain⟨a,b,c⟩:=aff (Ib h (by decide));exact⟨KA h2,h3,a,b,c⟩
theorem y7{c:List Int}{i d:Int}:(aT c i d).length=c.length:=by simp[aT]
end Go.Proofs.YtkmldgihhaooaaaGreatDoor
namespace Go.Proofs.YtkmldgihhaooaaaGreatDoor
open Go.Ab Go.Proofs
set_option maxRecDepth 100000
theorem ah.insert{h:Hz}{i n:Nat}{l:List Elem}{e:Elem}{K:V->Hz->Prop}{KW:Nat->V->Hz->Prop}(hi:h.get i=some (aZ l))(hn:h.get n=none)(hl:l.length<2^30)(hs:dK l)(he:e.counts.length<2^30)
  (h1:yM l e=true->K (.own i) ((i,some (aZ l))::h)) (h2:yM l e=false->K (.own n) ((n,some (aZ (oz l e)))::(i,none)::h)):ah Tryz.prog false none 124 [.own i,.dat (.elem e)] h n K KW:=by
 refine ah.KC (ts:=[.own 0,.dat (.elem e)]) (S.qX l e 1 (by decide) hl hs he) ?_ rfl rfl rfl hi hn ?_
 ·show [T.own i,T.ren _ (gq e)]=[T.own i,gq e];rfl
 ·rintro t hp (⟨a,rfl,rfl⟩|⟨a,rfl,rfl⟩)
  ·exact .inl ⟨.own i,aZ l,rfl,rfl,rfl,h1 a⟩
  ·exact .inr ⟨.own n,aZ (oz l e),rfl,rfl,rfl,h2 a⟩
theorem ah.tidy{h:Hz}{i n:Nat}{l:List Elem}{K:V->Hz->Prop}{KW:Nat->V->Hz->Prop}(hi:h.get i=some (aZ l))(hn:h.get n=none)(hl:l.length<2^30)(hs:dK l)
  (h1:K (.own i) ((i,some (aZ (rH l)))::h)) (h2: ∀ m,K (.qE i 0 (rH l).length) ((i,some (.row 35 3 (.elems (rH l)) (List.replicate m zeroV)))::h)):ah Tryz.prog false none 64 [.own i] h n K KW:=by
 refine ah.KC (ts:=[.own 0]) (S.uo l 1 hl hs) rfl rfl rfl rfl hi hn ?_;rintro t hp (⟨rfl,rfl⟩|⟨m,rfl,rfl⟩)
 ·exact .inl ⟨.own i,aZ (rH l),rfl,rfl,rfl,h1⟩
 ·exact .inl ⟨.qE i 0 _,.row 35 3 (.elems (rH l)) (List.replicate m zeroV),rfl,FQ _ _,rfl,h2 m⟩
theorem aj.y8{h:Hz}{k:Nat}{c:Int}:aj (.dW [.row 3 false (.elems []),.int c]) (.dW [.row k true .nil,.int c]) h:=⟨by
 show T.sub (fun _=>True) h.ay (.dW [.sl 3 false [],.int c]) (.dW [.sl k true [],.int c])
 simp[T.sub,T.dA]⟩
end Go.Proofs.YtkmldgihhaooaaaGreatDoor
namespace Go.Proofs.YtkmldgihhaooaaaGreatDoor
open Go.Ab Go.Proofs
set_option maxRecDepth 100000
theorem QX{a b:List Int}(h:nI a b=true)(i:Nat):a.getD i 0<=b.getD i 0:=by
 obtain⟨h1,h2⟩:=nJ.1 h;by_cases hi:i<a.length
 ·exact h2 i hi
 ·rw[show a.getD i 0=0 by simp[List.getD_eq_getElem?_getD,List.getElem?_eq_none (by omega:a.length<=i)],show b.getD i 0=0 by simp[List.getD_eq_getElem?_getD,List.getElem?_eq_none (by omega:b.length<=i)]];exact Int.le_refl _
theorem Ic{c:List Int}{i d:Int}{j:Nat}:(aT c i d).getD j 0=if j=i.toNat/\j<c.length then c.getD j 0+d else c.getD j 0:=by
 unfold aT;rw[List.getD_eq_getElem?_getD,List.getElem?_set];by_cases h:i.toNat=j
 ·subst h;by_cases h2:i.toNat<c.length
  ·simp[h2]
  ·simp[h2]
 ·rw[if_neg h,if_neg (fun q=>h q.1.symm),List.getD_eq_getElem?_getD]
theorem acW: ∀ {l:List Rule} {acc:Bool},l.foldl QY acc=false->acc=false/\ ∀ r∈l,r.all=[]:=by
 intro l;induction l with
 |nil=>intro acc h; exact⟨h,fun r hr=>by cases hr⟩
 |cons x l ih =>
  intro acc h;obtain⟨h1,h2⟩:=ih h;simp only[QY,Bool.or_eq_false_iff] at h1;refine⟨h1.1,fun r hr=>?_⟩;rcases List.mem_cons.1 hr with rfl|hr
  ·exact len_nil h1.2
  ·exact h2 r hr
theorem X8{p:aI}(h:(kT p).cover=true):sF p=true/\ ∀ r∈p.rules,r.all=[]:=by
 simp only[kT,Bool.and_eq_true,Bool.not_eq_true'] at h;exact⟨h.1,(acW h.2).2⟩
theorem UR{p:aI}{e:Elem}(h1:bI p=0)(h2:(kT p).cover=true)(h3:lH p e=false):WC p e=0:=by
 have:X7 p=0:=by
  unfold X7;rw[show(bI p !=0)=false by simp[h1],h2]; rfl
 rw[WC,this,h3]; rfl
structure kM(q:Prop'):Prop where
 start:q.start.length<2^30
 bad:q.bad.length<2^30
 adjacent:q.adjacent.length<2^30
 goal:q.goal.length<2^30
 cnt: ∀ i,(q.bad.getD i default).states.length<2^30
def qJ(c:Cnt):Bool:=((c.states.length:Int)==0||decide (c.least<1))||decide (c.least>3)
def Nq(n:Int)(c:Cnt):Int:=bD [iZ c.states n,dQ (qJ c) 1]
def vU(l:List Cnt)(n:Int):Int:=bD (l.map (Nq n))
def JA(p:aI)(l:List Int):Int:=bif (l.length:Int)==0 then 0 else bif p.topology==1 then 6 else bif (l.length:Int) !=2 then 1 else bD [cZ (l.getD 0 0) p.states.length,cZ (l.getD 1 0) p.states.length]
def vV(q:Prop'):Bool:=((q.kind==1)&&decide ((q.goal.length:Int)>0))||(!(q.kind==1)&&(decide ((q.bad.length:Int)>0)||decide ((q.adjacent.length:Int)>0)))
def jU(p:aI)(q:Prop'):Int :=
 let n:Int:=p.states.length
 bif bI p !=0 then bI p else bif !(validName q.name) then 2 else bif !(q.kind==1)&&q.kind !=2 then 1 else bif vV q then 1 else
 bif iZ q.start n !=0 then iZ q.start n else bif q.start.any (fun x=> !(Kv p.initial x)) then 5 else
 bif !(q.kind==1) then bD [iZ q.goal n,dQ ((q.goal.length:Int)==0) 1] else
 bD [dQ (((q.bad.length:Int)==0)&&((q.adjacent.length:Int)==0)) 1,dQ (decide ((q.bad.length:Int)>3)) 4,vU q.bad n,JA p q.adjacent]
theorem S.nK(l:List Cnt)(n:Int)(f:Bool)(hl:l.length<2^30)(hs: ∀ i,(l.getD i default).states.length<2^30):ak Tryz.prog 112 [.row 3 f (.cnts l),.int n] (.int (vU l n)):=by
 refine ak.of Bd.nK (by simp) rfl rfl ?_;refine aA.same [1,8,9] (fun i:Nat=>[(10,.int i)]) (fun i=>i<=l.length/\vU l n=bD ((l.drop i).map (Nq n))) (fun i=>l.length-i) 0 rfl (by decide) rfl (fun _=>rfl) ⟨by omega,by simp[vU]⟩ ⟨⟨_,rfl,rfl⟩,trivial⟩ ?_;refine⟨rfl,?_⟩;rintro i ⟨hi,hall⟩;refine⟨fun h3=>?_,fun h3=>?_⟩
 ·have hi':i<l.length:=by simpa using h3
  rw[bY default hi',List.map_cons] at hall;simp only[bD] at hall;have hc:=hs i;refine .mk (by simp only[Rw.rng] at *; omega) ?_;refine ah.pure (S.eX (l.getD i default).states n false (by omega)) rfl ?_;repeat(refine VC.mk (by first|exact id|(intro h; rw[h]; rfl)) ?_)
  refine ah.pure (S.bT (qJ (l.getD i default)) 1) rfl ?_;refine ah.pure (S.bK [iZ (l.getD i default).states n,dQ (qJ (l.getD i default)) 1] true (show 2<2^40 by decide)) rfl ?_;refine⟨fun h4=>?_,fun h4=>?_⟩
  ·conv=>whnf
   refine aj.int ?_;have h4':Nq n (l.getD i default)≠0:=nz h4;rw[hall,if_neg h4']; rfl
  ·conv=>whnf
   refine .mk (by simp only[okI] at *; omega) ?_;conv=>whnf
   have h4':Nq n (l.getD i default)=0:=BD h4;rw[if_pos h4'] at hall;refine⟨i+1,⟨by omega,hall⟩,by omega,⟨⟨_,rfl,rfl⟩,trivial⟩,?_,rfl⟩;repeat' (first|exact trivial|exact⟨_,rfl,rfl⟩|constructor)
 ·have hi':l.length<=i:=by simpa using h3
  rw[List.drop_eq_nil_of_le hi'] at hall;exact aj.int (by rw[hall]; rfl)
theorem S.kU(p:aI)(l:List Int)(f:Bool)(_hl:l.length<2^30):ak Tryz.prog 113 [.dat (.fV p),.row 0 f (.ints l)] (.int (JA p l)):=by
 refine ak.of Bd.kU (by simp) rfl rfl ?_;refine⟨fun h1=>?_,fun h1=>?_⟩
 ·conv=>whnf
  exact aj.int (by rw[JA,h1]; rfl)
 refine⟨fun h2=>?_,fun h2=>?_⟩
 ·conv=>whnf
  exact aj.int (by rw[JA,h1,h2]; rfl)
 refine⟨fun h3=>?_,fun h3=>?_⟩
 ·conv=>whnf
  exact aj.int (by rw[JA,h1,h2,h3]; rfl)
 have h4:l.length=2:=by
  have:(l.length:Int)=2:=by simpa using h3
  omega
 repeat(refine VC.mk (by simp only[Rw.rng] at *; omega) ?_)
 refine ah.pure (S.bV (l.getD 0 0) p.states.length) rfl ?_;refine ah.pure (S.bV (l.getD 1 0) p.states.length) rfl ?_;refine ah.pure (S.bK [cZ (l.getD 0 0) p.states.length,cZ (l.getD 1 0) p.states.length] true (show 2<2^40 by decide)) rfl ?_;exact aj.int (by rw[JA,h1,h2,h3]; rfl)
theorem S.eP(p:aI)(q:Prop')(hp:eU p)(hq:kM q):ak Tryz.prog 68 [.dat (.fV p),.dat (.prop q)] (.int (jU p q)):=by
 have g1:=hp.states; have g5:=hp.initial;have q1:=hq.start; have q2:=hq.bad; have q3:=hq.adjacent; have q4:=hq.goal;refine ak.of Bd.eP (by simp) rfl rfl ?_;refine ah.pure (S.jq p hp) rfl ?_;refine⟨fun h1=>?_,fun h1=>?_⟩
 ·conv=>whnf
  exact aj.int (by rw[jU,h1]; rfl)
 refine ah.pure (S.gQ q.name) rfl ?_;refine⟨fun h2=>?_,fun h2=>?_⟩
 ·conv=>whnf
  exact aj.int (by rw[jU,h1,h2]; rfl)
 repeat(refine VC.mk id ?_)
 refine⟨fun h3=>?_,fun h3=>?_⟩
 ·conv=>whnf
  exact aj.int (by rw[jU,h1,h2,h3]; rfl)
 repeat(refine VC.mk id ?_)
 refine⟨fun h4=>?_,fun h4=>?_⟩
 ·conv=>whnf
  refine Fork.mk (fun _=>?_) (fun q=>absurd (q.symm.trans (h4)) Bool.false_ne_true);exact aj.int (by rw[jU,h1,h2,h3,show vV q=true by rw[vV]; erw [h4]; rfl]; rfl)
 repeat(refine VC.mk (by first|exact id|(intro h; simp_all; done)) ?_)
 refine⟨fun h5=>?_,fun h5=>?_⟩
 ·conv=>whnf
  exact aj.int (by rw[jU,h1,h2,h3,show vV q=true by rw[vV]; erw [h5]; simp]; rfl)
 have h45:vV q=false:=by rw[vV]; erw [h4,h5]; rfl
 refine ah.pure (S.eX q.start p.states.length false (by omega)) rfl ?_;refine⟨fun h6=>?_,fun h6=>?_⟩
 ·conv=>whnf
  exact aj.int (by rw[jU,h1,h2,h3,h45,h6]; rfl)
 refine aA.same [2,3,6,7,65,66] (fun i:Nat=>[(67,.int i)]) (fun i=>i<=q.start.length/\(q.start.take i).any (fun x=> !(Kv p.initial x))=false) (fun i=>q.start.length-i) 0 rfl (by decide) rfl (fun _=>rfl) ⟨by omega,by simp⟩ ⟨⟨_,rfl,rfl⟩,trivial⟩ ?_;refine⟨rfl,?_⟩;rintro i ⟨hi,hall⟩;refine⟨fun h7=>?_,fun h7=>?_⟩
 ·have hi':i<q.start.length:=by simpa using h7
  refine .mk (by simp only[Rw.rng] at *; omega) ?_;refine ah.pure (S.slices_Contains_int p.initial (q.start.getD i 0) false (by omega)) rfl ?_;refine⟨fun h8=>?_,fun h8=>?_⟩
  ·conv=>whnf
   exact aj.int (by rw[jU,h1,h2,h3,h45,h6,iQ (d:=0) hi' h8]; rfl)
  ·conv=>whnf
   refine .mk (by simp only[okI] at *; omega) ?_;refine⟨i+1,⟨by omega,?_⟩,by omega,⟨⟨_,rfl,rfl⟩,trivial⟩,?_,rfl⟩
   ·rw[kS (d:=0) hi' hall]; exact h8
   ·repeat' (first|exact trivial|exact⟨_,rfl,rfl⟩|constructor)
 have hi':q.start.length<=i:=by simpa using h7
 rw[List.take_of_length_le hi'] at hall;refine⟨fun h8=>?_,fun h8=>?_⟩
 ·conv=>whnf
  refine ah.pure (S.eX q.goal p.states.length false (by omega)) rfl ?_;refine ah.pure (S.bT ((q.goal.length:Int)==0) 1) rfl ?_;refine ah.pure (S.bK [iZ q.goal p.states.length,dQ ((q.goal.length:Int)==0) 1] true (show 2<2^40 by decide)) rfl ?_;exact aj.int (by rw[jU,h1,h2,h3,h45,h6,hall,h8]; rfl)
 repeat(refine VC.mk id ?_)
 refine ah.pure (S.bT (((q.bad.length:Int)==0)&&((q.adjacent.length:Int)==0)) 1) rfl ?_;refine ah.pure (S.bT (decide ((q.bad.length:Int)>3)) 4) rfl ?_;refine ah.pure (S.nK q.bad p.states.length false q2 hq.cnt) rfl ?_;refine ah.pure (S.kU p q.adjacent false q3) rfl ?_;refine ah.pure (S.bK [dQ (((q.bad.length:Int)==0)&&((q.adjacent.length:Int)==0)) 1,dQ (decide ((q.bad.length:Int)>3)) 4,vU q.bad p.states.length,JA p q.adjacent] true (show 4<2^40 by decide)) rfl ?_;exact aj.int (by rw[jU,h1,h2,h3,h45,h6,hall,h8]; rfl)
theorem S.FT(l:List Int)(s:Int)(f:Bool)(hl:l.length<2^40):ak Tryz.prog 81 [.row 0 f (.ints l),.int s] (.bool (Kv l s)):=by
 refine ak.of Bd.FT (by simp) rfl rfl ?_;refine aA.same [0,1] (fun i:Nat=>[(5,.int i)]) (fun i=>i<=l.length/\(l.take i).any (fun x=>s==x)=false) (fun i=>l.length-i) 0 rfl (by decide) rfl (fun _=>rfl) ⟨by omega,by simp⟩ ⟨⟨_,rfl,rfl⟩,trivial⟩ ?_;refine⟨rfl,?_⟩;rintro i ⟨hi,hall⟩;refine⟨fun h3=>?_,fun h3=>?_⟩
 ·have hi':i<l.length:=by simpa using h3
  refine .mk (by simp only[Rw.rng] at *; omega) ?_;refine⟨fun h4=>?_,fun h4=>?_⟩
  ·have h4':(s==l.getD i 0)=true:=by rw[show(s==l.getD i 0)=(l.getD i 0==s) from Bool.beq_comm]; exact h4
   exact aj.bool (iQ (d:=0) hi' h4')
  ·have h4':(s==l.getD i 0)=false:=by rw[show(s==l.getD i 0)=(l.getD i 0==s) from Bool.beq_comm]; exact h4
   refine .mk (by simp only[okI] at *; omega) ?_;refine⟨i+1,⟨by omega,?_⟩,by omega,⟨⟨_,rfl,rfl⟩,trivial⟩,?_,rfl⟩
   ·rw[kS (d:=0) hi' hall]; exact h4'
   ·repeat' (first|exact trivial|exact⟨_,rfl,rfl⟩|constructor)
 ·have hi':l.length<=i:=by simpa using h3
  rw[List.take_of_length_le hi'] at hall;exact aj.bool hall
theorem acX{p:aI}{l:List Int}(h1:(decide ((l.length:Int)>0)&&(p.topology==1))=false)(h2:((l.length:Int) !=0&&(l.length:Int) !=2)=false):JA p l=bif l.any (fun x=>pR x p.states.length) then 5 else 0:=by
 unfold JA;rcases l with _|⟨a,_|⟨b,_|⟨c,r⟩⟩⟩
 ·rfl
 ·simp at h2
 ·have ht:(p.topology==1)=false:=by simpa using h1
  rw[ht];simp only[List.length_cons,List.length_nil,List.getD_cons_zero,List.getD_cons_succ,List.any_cons,List.any_nil,Bool.or_false,cZ];cases pR a p.states.length<;>cases pR b p.states.length<;>rfl
 ·simp at h2; omega
theorem UU{c:Cnt}:qJ c=((c.states.length:Int)==0|| !(iC c.least 1 3)):=by
 rw[qJ,pU,Bool.or_assoc]
theorem S.jk(p:aI)(q:Prop')(hp:eU p)(hq:kM q):ak Tryz.prog 49 [.dat (.fV p),.dat (.prop q)] (.int (jU p q)):=by
 have g1:=hp.states; have g5:=hp.initial;have q1:=hq.start; have q2:=hq.bad; have q3:=hq.adjacent; have q4:=hq.goal;refine ak.of Bd.jk (by simp) rfl rfl ?_;refine ah.pure (S.pV p hp) rfl ?_;refine⟨fun h1=>?_,fun h1=>?_⟩
 ·conv=>whnf
  exact aj.int (by rw[jU,h1]; rfl)
 refine ah.pure (S.jO q.name) rfl ?_;refine⟨fun h2=>?_,fun h2=>?_⟩
 ·conv=>whnf
  exact aj.int (by rw[jU,h1,h2]; rfl)
 repeat(refine VC.mk id ?_)
 refine⟨fun h3=>?_,fun h3=>?_⟩
 ·replace h3:(!(q.kind==1)&&q.kind !=2)=true:=h3;exact aj.int (by rw[jU,h1,h2,h3]; rfl)
 replace h3:(!(q.kind==1)&&q.kind !=2)=false:=h3;have k2:(q.kind==2)= !(q.kind==1):=by
  cases e:(q.kind==1) with
  |true=>rw[beq_iff_eq.1 e]; rfl
  |false=>rw[e] at h3; simpa using h3
 repeat(refine VC.mk (by first|exact id|(intro h; rw[h]; rfl)|(intro h; simp_all; done)) ?_)
 refine⟨fun h4=>?_,fun h4=>?_⟩
 ·rw[k2] at h4;exact aj.int (by rw[jU,h1,h2,h3,show vV q=true from h4]; rfl)
 rw[k2] at h4;replace h4:vV q=false:=h4;refine ah.pure (S.jc q.start p.states.length false (by omega) (by omega)) rfl ?_;refine⟨fun h6=>?_,fun h6=>?_⟩
 ·conv=>whnf
  exact aj.int (by rw[jU,h1,h2,h3,h4,h6]; rfl)
 refine aA.same [2,3,6] (fun i:Nat=>[(8,.int i)]) (fun i=>i<=q.start.length/\(q.start.take i).any (fun x=> !(Kv p.initial x))=false) (fun i=>q.start.length-i) 0 rfl (by decide) rfl (fun _=>rfl) ⟨by omega,by simp⟩ ⟨⟨_,rfl,rfl⟩,trivial⟩ ?_;refine⟨rfl,?_⟩;rintro i ⟨hi,hall⟩;refine⟨fun h7=>?_,fun h7=>?_⟩
 ·have hi':i<q.start.length:=by simpa using h7
  refine .mk (by simp only[Rw.rng] at *; omega) ?_;refine ah.pure (S.FT p.initial (q.start.getD i 0) false (by omega)) rfl ?_;refine⟨fun h8=>?_,fun h8=>?_⟩
  ·conv=>whnf
   exact aj.int (by rw[jU,h1,h2,h3,h4,h6,iQ (d:=0) hi' h8]; rfl)
  ·conv=>whnf
   refine .mk (by simp only[okI] at *; omega) ?_;refine⟨i+1,⟨by omega,?_⟩,by omega,⟨⟨_,rfl,rfl⟩,trivial⟩,?_,rfl⟩
   ·rw[kS (d:=0) hi' hall]; exact h8
   ·repeat' (first|exact trivial|exact⟨_,rfl,rfl⟩|constructor)
 have hi':q.start.length<=i:=by simpa using h7
 rw[List.take_of_length_le hi'] at hall;clear h7 hi';refine⟨fun h8=>?_,fun h8=>?_⟩
 ·have h8':(!(q.kind==1))=true:=by rw[<- k2]; exact h8
  have hS:jU p q=bD [iZ q.goal p.states.length,dQ ((q.goal.length:Int)==0) 1]:=by rw[jU,h1,h2,h3,h4,h6,hall,h8']; rfl
  rw[hS];refine ah.pure (S.jc q.goal p.states.length false (by omega) (by omega)) rfl ?_;refine⟨fun h9=>?_,fun h9=>?_⟩
  ·conv=>whnf
   exact aj.int (fN (nz h9))
  rw[show iZ q.goal p.states.length=0 from BD h9,f0];refine⟨fun h10=>?_,fun h10=>?_⟩
  ·conv=>whnf
   exact aj.int (by rw[h10]; rfl)
  ·conv=>whnf
   exact aj.int (by rw[h10]; rfl)
 have h8':(!(q.kind==1))=false:=by rw[<- k2]; exact h8
 have hS:jU p q=bD [dQ (((q.bad.length:Int)==0)&&((q.adjacent.length:Int)==0)) 1,dQ (decide ((q.bad.length:Int)>3)) 4,vU q.bad p.states.length,JA p q.adjacent]:=by rw[jU,h1,h2,h3,h4,h6,hall,h8']; rfl
 rw[hS];repeat(refine VC.mk id ?_)
 refine⟨fun h9=>?_,fun h9=>?_⟩
 ·conv=>whnf
  exact aj.int (by rw[h9]; rfl)
 rw[h9,WE];refine⟨fun h10=>?_,fun h10=>?_⟩
 ·conv=>whnf
  exact aj.int (by rw[show decide ((q.bad.length:Int)>3)=true from h10]; rfl)
 rw[show decide ((q.bad.length:Int)>3)=false from h10,WE];refine aA.same [2,3,6] (fun i:Nat=>[(10,.int i)]) (fun i=>i<=q.bad.length/\vU q.bad p.states.length=bD ((q.bad.drop i).map (Nq p.states.length))) (fun i=>q.bad.length-i) 0 rfl (by decide) rfl (fun _=>rfl) ⟨by omega,by simp[vU]⟩ ⟨⟨_,rfl,rfl⟩,trivial⟩ ?_;refine⟨rfl,?_⟩;rintro j ⟨hj,hcnt⟩;refine⟨fun h11=>?_,fun h11=>?_⟩
 ·have hj':j<q.bad.length:=by simpa using h11
  rw[bY default hj',List.map_cons] at hcnt;simp only[bD] at hcnt;have hc:=hq.cnt j;refine .mk (by simp only[Rw.rng] at *; omega) ?_;refine ah.pure (S.jc (q.bad.getD j default).states p.states.length false (by omega) (by omega)) rfl ?_;refine⟨fun h12=>?_,fun h12=>?_⟩
  ·conv=>whnf
   have e1:Nq p.states.length (q.bad.getD j default)=iZ (q.bad.getD j default).states p.states.length:=fN (nz h12);rw[e1,if_neg (nz h12)] at hcnt;exact aj.int (by rw[hcnt,fN (nz h12)])
  have aah:iZ (q.bad.getD j default).states p.states.length=0:=BD h12;have e1:Nq p.states.length (q.bad.getD j default)=bD [dQ (qJ (q.bad.getD j default)) 1]:=by rw[Nq,aah,f0]
  rw[e1,UU] at hcnt;repeat(refine VC.mk (by first|exact id|(intro h; (repeat' apply And.intro)<;>first|exact h|omega|(simp only[Rw.qY]; omega)|(simp only[Rw.rng]; omega))|(simp only[Rw.rng] at *; omega)) ?_)
  refine ah.ig (fun _=>S.aY (q.bad.getD j default).least 1 3) rfl ?_;repeat(refine VC.mk (by first|exact id|(intro h; rw[h]; rfl)) ?_)
  refine⟨fun h13=>?_,fun h13=>?_⟩
  ·replace h13:(((q.bad.getD j default).states.length:Int)==0|| !(iC (q.bad.getD j default).least 1 3))=true:=h13;rw[h13] at hcnt;exact aj.int (by rw[hcnt]; rfl)
  ·replace h13:(((q.bad.getD j default).states.length:Int)==0|| !(iC (q.bad.getD j default).least 1 3))=false:=h13;rw[h13] at hcnt;refine .mk (by simp only[okI] at *; omega) ?_;refine⟨j+1,⟨by omega,hcnt⟩,by omega,⟨⟨_,rfl,rfl⟩,trivial⟩,?_,rfl⟩;repeat' (first|exact trivial|exact⟨_,rfl,rfl⟩|constructor)
 have hj':q.bad.length<=j:=by simpa using h11
 rw[List.drop_eq_nil_of_le hj'] at hcnt;rw[hcnt,show bD (List.map (Nq p.states.length) [])=0 from rfl,f0];repeat(refine VC.mk id ?_)
 refine⟨fun h12=>?_,fun h12=>?_⟩
 ·replace h12:(decide ((q.adjacent.length:Int)>0)&&(p.topology==1))=true:=h12;conv=>whnf
  rw[Bool.and_eq_true] at h12
  have:((q.adjacent.length:Int)==0)=false:=beq_eq_false_iff_ne.2 (by have:=of_decide_eq_true h12.1; omega)
  exact aj.int (by rw[JA,this,h12.2]; rfl)
 replace h12:(decide ((q.adjacent.length:Int)>0)&&(p.topology==1))=false:=h12;repeat(refine VC.mk id ?_)
 refine⟨fun h13=>?_,fun h13=>?_⟩
 ·replace h13:((q.adjacent.length:Int) !=0&&(q.adjacent.length:Int) !=2)=true:=h13;conv=>whnf
  rw[Bool.and_eq_true] at h13;have e0:((q.adjacent.length:Int)==0)=false:=by simpa using h13.1
  have e1:(p.topology==1)=false:=by
   rw[Bool.and_eq_false_iff] at h12;rcases h12 with h12|h12
   ·have:=of_decide_eq_false h12
    have:(q.adjacent.length:Int)≠0:=by simpa using e0
    omega
   ·exact h12
  exact aj.int (by rw[JA,e0,e1,h13.2]; rfl)
 replace h13:((q.adjacent.length:Int) !=0&&(q.adjacent.length:Int) !=2)=false:=h13;rw[acX h12 h13];refine aA.same [2,3,6] (fun i:Nat=>[(12,.int i)]) (fun i=>i<=q.adjacent.length/\(q.adjacent.take i).any (fun x=>pR x p.states.length)=false) (fun i=>q.adjacent.length-i) 0 rfl (by decide) rfl (fun _=>rfl) ⟨by omega,by simp⟩ ⟨⟨_,rfl,rfl⟩,trivial⟩ ?_;refine⟨rfl,?_⟩;rintro k ⟨hk,afg⟩;refine⟨fun h14=>?_,fun h14=>?_⟩
 ·have hk':k<q.adjacent.length:=by simpa using h14
  repeat(refine VC.mk (by simp only[okI,Rw.rng] at *; omega) ?_)
  refine ah.pure (S.aY (q.adjacent.getD k 0) 0 (p.states.length-1)) rfl ?_;refine⟨fun h15=>?_,fun h15=>?_⟩
  ·replace h15:(!(iC (q.adjacent.getD k 0) 0 (p.states.length-1)))=true:=h15;rw[wW] at h15;exact aj.int (by rw[iQ (d:=0) hk' h15]; rfl)
  ·replace h15:(!(iC (q.adjacent.getD k 0) 0 (p.states.length-1)))=false:=h15;rw[wW] at h15;refine .mk (by simp only[okI] at *; omega) ?_;refine⟨k+1,⟨by omega,?_⟩,by omega,⟨⟨_,rfl,rfl⟩,trivial⟩,?_,rfl⟩
   ·rw[kS (d:=0) hk' afg]; exact h15
   ·repeat' (first|exact trivial|exact⟨_,rfl,rfl⟩|constructor)
 have hk':q.adjacent.length<=k:=by simpa using h14
 rw[List.take_of_length_le hk'] at afg;exact aj.int (by rw[afg]; rfl)
theorem aj.acY{h:Hz}{j:Nat}{l:List Int}(q:h.get j=some (iY l)):aj (.row 0 false (.ints l)) (.own j) h:=⟨AX trivial q⟩
theorem aj.agG{h:Hz}{k k':Nat}{r:Rw}(e:r.len=0):aj (.row k false r) (.row k' true .nil) h:=⟨by
 have:r.aU=[]:=List.eq_nil_of_length_eq_zero (by rw[Rw.fC]; exact e)
 show T.sub (fun _=>True) h.ay (.sl k false r.aU) (.sl k' true [])
 rw[this]; simp[T.sub]⟩
theorem S.NR(l:List Int)(f:Bool)(hl:l.length<2^30):ak Tryz.prog 114 [.row 0 f (.ints l)] (.row 0 false (.ints l)):=by
 refine ak.of Bd.oC (by simp) rfl rfl ?_;refine aai.mk (fun hz=>?_) ?_
 ·conv=>whnf
  refine Fork.mk (fun _=>?_) (fun q=>absurd (q.symm.trans ((rfl:true=true))) Bool.false_ne_true);exact aj.agG hz
 ·conv=>whnf
  refine Fork.mk (fun q=>absurd (q.symm.trans ((rfl:false=false))).symm Bool.false_ne_true) (fun _=>?_);refine .mk (by simp only[jH,jP,Rw.len]; omega) ?_;repeat(refine VC.mk (by simp only[jH,jP,Rw.len]; omega) ?_)
  exact aj.acY rfl
def yN(p:aI)(q:Prop'):List Int:=bif decide ((q.start.length:Int)>0) then q.start else p.initial
def dn(p:aI)(q:Prop'):Int:=bif jU p q !=0 then jU p q else dQ (!(kT p).cover||q.kind !=1) 7
theorem KD{p:aI}{q:Prop'}(h:jU p q=0):bI p=0:=by
 unfold jU at h;obtain⟨h1,_⟩:=bz nz h;exact BD h1
theorem NS{p:aI}{q:Prop'}(h:jU p q=0):dn p q=dQ (!(bif bI p !=0 then QZ else kT p).cover||q.kind !=1) 7:=by
 have h2:=KD h;rw[dn,show(jU p q !=0)=false by simp[h],show(bI p !=0)=false by simp[h2]]; rfl
theorem S.mQ(p:aI)(q:Prop')(hp:eU p)(hq:kM q):ak Tryz.prog 41 [.dat (.fV p),.dat (.prop q)] (.int (dn p q)):=by
 refine ak.of Bd.mQ (by simp) rfl rfl ?_;refine ah.pure (S.eP p q hp hq) rfl ?_;refine⟨fun h1=>?_,fun h1=>?_⟩
 ·conv=>whnf
  exact aj.int (by rw[dn,h1]; rfl)
 rw[NS (BD h1)];refine ah.pure (S.jr p hp) rfl ?_;repeat(refine VC.mk (by first|exact id|(intro h; rw[h]; rfl)) ?_)
 refine⟨fun h2=>?_,fun h2=>?_⟩
 ·conv=>whnf
  exact aj.int (by rw[h2]; rfl)
 ·conv=>whnf
  exact aj.int (by rw[h2]; rfl)
theorem S.y9(p:aI)(q:Prop')(hp:eU p)(hq:kM q):ak Tryz.prog 42 [.dat (.fV p),.dat (.prop q)] (.int (dn p q)):=by
 refine ak.of Bd.y9 (by simp) rfl rfl ?_;refine ah.pure (S.jk p q hp hq) rfl ?_;refine⟨fun h1=>?_,fun h1=>?_⟩
 ·conv=>whnf
  exact aj.int (by rw[dn,h1]; rfl)
 rw[NS (BD h1)];refine ah.pure (S.sG p hp) rfl ?_;repeat(refine VC.mk (by first|exact id|(intro h; rw[h]; rfl)) ?_)
 refine⟨fun h2=>?_,fun h2=>?_⟩
 ·conv=>whnf
  exact aj.int (by rw[h2]; rfl)
 ·conv=>whnf
  exact aj.int (by rw[h2]; rfl)
theorem S.nM(p:aI)(q:Prop')(hp:eU p)(hq:kM q)(hv:jU p q=0):ak Tryz.prog 72 [.dat (.fV p),.dat (.prop q)] (.dW [.row 0 false (.ints (yN p q)),.int 0]):=by
 have g5:=hp.initial; have q1:=hq.start;refine ak.of Bd.nM (by simp) rfl rfl ?_;refine ah.pure (S.eP p q hp hq) rfl ?_;refine Fork.mk (fun q=>absurd (q.symm.trans ((by simp[hv]))).symm Bool.false_ne_true) (fun _=>?_);refine⟨fun h2=>?_,fun h2=>?_⟩
 ·conv=>whnf
  refine ah.pure (S.NR q.start false q1) rfl ?_;exact aj.eqv (by rw[yN,show decide ((q.start.length:Int)>0)=true from h2]; rfl)
 ·conv=>whnf
  refine ah.pure (S.NR p.initial false g5) rfl ?_;exact aj.eqv (by rw[yN,show decide ((q.start.length:Int)>0)=false from h2]; rfl)
def BA(p:aI)(q:Prop')(e:Elem):Bool:= !(afe e.counts (yN p q))&&(e.value==0)
theorem X9{p:aI}{q:Prop'}(hp:eU p)(hq:kM q):(yN p q).length<2^30:=by
 unfold yN;cases decide ((q.start.length:Int)>0)
 ·exact hp.initial
 ·exact hq.start
theorem S.nZ(p:aI)(q:Prop')(e:Elem)(hp:eU p)(hq:kM q)(he:e.counts.length<2^30)(hv:jU p q=0):ak Tryz.prog 45 [.dat (.fV p),.dat (.prop q),.dat (.elem e)] (.bool (BA p q e)):=by
 have hst:=X9 hp hq;refine ak.of Bd.nZ (by simp) rfl rfl ?_;refine ah.pure (S.nM p q hp hq hv) rfl ?_;refine aA.same [5,7,18,19] (fun i:Nat=>[(20,.int i)]) (fun i=>i<=e.counts.length/\(List.range i).any (fun i=>decide (e.counts.getD i 0>0)&& !(Kv (yN p q) i))=false) (fun i=>e.counts.length-i) 0 rfl (by decide) rfl (fun _=>rfl) ⟨by omega,by simp⟩ ⟨⟨_,rfl,rfl⟩,trivial⟩ ?_;refine⟨rfl,?_⟩;rintro i ⟨hi,hall⟩;refine⟨fun h3=>?_,fun h3=>?_⟩
 ·have hi':i<e.counts.length:=by simpa using h3
  repeat(refine VC.mk (by first|exact fun h=>⟨h,h⟩|(simp only[Rw.rng] at *; omega)) ?_)
  refine ah.ig (fun _=>S.slices_Contains_int (yN p q) i false (by omega)) rfl ?_;repeat(refine VC.mk id ?_)
  refine⟨fun h4=>?_,fun h4=>?_⟩
  ·conv=>whnf
   have:afe e.counts (yN p q)=true:=Dy.2 ⟨i,hi',h4⟩
   exact aj.bool (by rw[BA,this]; rfl)
  ·conv=>whnf
   refine .mk (by simp only[okI] at *; omega) ?_;refine⟨i+1,⟨by omega,?_⟩,by omega,⟨⟨_,rfl,rfl⟩,trivial⟩,?_,rfl⟩
   ·rw[List.range_succ,List.any_append,hall];simp only[List.any_cons,List.any_nil,Bool.or_false,Bool.false_or]; exact h4
   ·repeat' (first|exact trivial|exact⟨_,rfl,rfl⟩|constructor)
 ·have hi':e.counts.length<=i:=by simpa using h3
  have ei:i=e.counts.length:=Nat.le_antisymm hi hi';subst ei;exact aj.bool (by rw[BA,show afe e.counts (yN p q)=false from hall]; rfl)
theorem EH{p:aI}{q:Prop'}(h:dn p q=0):jU p q=0:=by
 unfold dn at h;obtain⟨h1,_⟩:=bz nz h;exact BD h1
end Go.Proofs.YtkmldgihhaooaaaGreatDoor
