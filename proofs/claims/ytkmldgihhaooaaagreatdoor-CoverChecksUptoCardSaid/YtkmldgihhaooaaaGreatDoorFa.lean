/-
 A part of the proof. No condition.
-/
import Derived.Test.YtkmldgihhaooaaaGreatDoorRb
import Derived.Test.YtkmldgihhaooaaaGreatDoorLg
import Derived.Test.YtkmldgihhaooaaaGreatDoorKa
namespace Go.Proofs.YtkmldgihhaooaaaGreatDoor
open Go.Ab Go.Proofs
set_option maxRecDepth 100000
def Fq(s:Int):List Int->Nat->Int
 |[],_=> -1
 |x::r,i=>bif s==x then(i:Int) else Fq s r (i+1)
theorem ZL{s:Int}{l:List Int}:decide (0<=Fq s l 0)=l.any fun x=>s==x:=by
 have: ∀ {l:List Int} {i:Nat},0<=Fq s l i↔(l.any fun x=>s==x)=true:=by
  intro l;induction l with
  |nil=>intro i; simp[Fq]
  |cons x r ih =>
   intro i;rw[List.any_cons,Bool.or_eq_true,<- ih (i:=i+1)];show(0:Int)<=(bif s==x then(i:Int) else Fq s r (i+1))↔_;generalize (s==x)=b;cases b<;>simp
 rw[Bool.eq_iff_iff,decide_eq_true_eq]; exact this
theorem S.slices_Index_int(l:List Int)(s:Int)(f:Bool)(hl:l.length<2^40):aj Tryz.prog 115 [.row 0 f (.ints l),.int s] (.int (Fq s l 0)):=by
 refine aj.of Bd.nU (by simp) rfl rfl ?_;refine aA.same [0,1,6,7] (fun i:Nat=>[(8,.int i)]) (fun i=>i<=l.length/\Fq s l 0=Fq s (l.drop i) i) (fun i=>l.length-i) 0 rfl (by decide) rfl (fun _=>rfl) ⟨by omega,by simp⟩ ⟨⟨_,rfl,rfl⟩,trivial⟩ ?_;refine⟨rfl,?_⟩;rintro i ⟨hi,hall⟩;refine⟨fun h3=>?_,fun h3=>?_⟩
 ·have hi':i<l.length:=by simpa using h3
  rw[bY 0 hi'] at hall;simp only[Fq] at hall;refine .mk (by simp only[Rw.rng] at *; omega) ?_;refine⟨fun h4=>?_,fun h4=>?_⟩
  ·conv=>whnf
   refine ak.int ?_;have h4':(s==l.getD i 0)=true:=h4;rw[hall,h4']; rfl
  ·conv=>whnf
   refine .mk (by simp only[okI] at *; omega) ?_;refine⟨i+1,⟨by omega,?_⟩,by omega,⟨⟨_,rfl,rfl⟩,trivial⟩,?_,rfl⟩
   ·have h4':(s==l.getD i 0)=false:=h4;rw[hall,h4']; rfl
   ·repeat' (first|exact trivial|exact⟨_,rfl,rfl⟩|constructor)
 ·conv=>whnf
  refine ak.int ?_;have hi':l.length<=i:=by simpa using h3
  rw[hall,List.drop_eq_nil_of_le hi']; rfl
def Ji(l:List Int)(s:Int):Bool:=l.any fun x=>s==x
theorem S.slices_Contains_int(l:List Int)(s:Int)(f:Bool)(hl:l.length<2^40):aj Tryz.prog 73 [.row 0 f (.ints l),.int s] (.bool (Ji l s)):=by
 refine aj.of Bd.kW (by simp) rfl rfl ?_;refine ah.pure (S.slices_Index_int l s f hl) rfl ?_;exact ak.bool ZL.symm
theorem S.JZ(l:List Int)(s:Int)(f:Bool)(hl:l.length<2^40):aj Tryz.prog 76 [.row 0 f (.ints l),.int s] (.bool (Ji l s)):=by
 refine aj.of Bd.JZ (by simp) rfl rfl ?_;refine aA.same [0,1] (fun i:Nat=>[(5,.int i)]) (fun i=>i<=l.length/\(l.take i).any (fun x=>s==x)=false) (fun i=>l.length-i) 0 rfl (by decide) rfl (fun _=>rfl) ⟨by omega,by simp⟩ ⟨⟨_,rfl,rfl⟩,trivial⟩ ?_;refine⟨rfl,?_⟩;rintro i ⟨hi,hall⟩;refine⟨fun h3=>?_,fun h3=>?_⟩
 ·have hi':i<l.length:=by simpa using h3
  refine .mk (by simp only[Rw.rng] at *; omega) ?_;refine⟨fun h4=>?_,fun h4=>?_⟩
  ·have h4':(s==l.getD i 0)=true:=by rw[show(s==l.getD i 0)=(l.getD i 0==s) from Bool.beq_comm]; exact h4
   exact ak.bool (ig (d:=0) hi' h4')
  ·have h4':(s==l.getD i 0)=false:=by rw[show(s==l.getD i 0)=(l.getD i 0==s) from Bool.beq_comm]; exact h4
   refine .mk (by simp only[okI] at *; omega) ?_;refine⟨i+1,⟨by omega,?_⟩,by omega,⟨⟨_,rfl,rfl⟩,trivial⟩,?_,rfl⟩
   ·rw[jS (d:=0) hi' hall]; exact h4'
   ·repeat' (first|exact trivial|exact⟨_,rfl,rfl⟩|constructor)
 ·have hi':l.length<=i:=by simpa using h3
  rw[List.take_of_length_le hi'] at hall;exact ak.bool hall
def IZ(c l:List Int):Bool:=l.any fun q=>decide (c.getD q.toNat 0>0)
def qQ(n:Nat)(l:List Int):Prop:= ∀ q∈l,0<=q/\q<n
theorem S.Bl(c l:List Int)(f g:Bool)(_hc:c.length<2^40)(hl:l.length<2^40)(hp:qQ c.length l):aj Tryz.prog 122 [.row 0 f (.ints c),.row 0 g (.ints l)] (.bool (IZ c l)):=by
 refine aj.of Bd.Bl (by simp) rfl rfl ?_;refine aA.same [0,1] (fun i:Nat=>[(5,.int i)]) (fun i=>i<=l.length/\(l.take i).any (fun q=>decide (c.getD q.toNat 0>0))=false) (fun i=>l.length-i) 0 rfl (by decide) rfl (fun _=>rfl) ⟨by omega,by simp⟩ ⟨⟨_,rfl,rfl⟩,trivial⟩ ?_;refine⟨rfl,?_⟩;rintro i ⟨hi,hall⟩;refine⟨fun h3=>?_,fun h3=>?_⟩
 ·have hi':i<l.length:=by simpa using h3
  have hq:0<=l.getD i 0/\l.getD i 0<c.length:=by
   rw[show l.getD i 0=l[i] by simp[hi']]; exact hp _ (List.getElem_mem hi')
  repeat(refine VC.mk (by simp only[Rw.rng] at *; first|omega|(simp_all; done)|(simp_all; omega)) ?_)
  refine⟨fun h4=>?_,fun h4=>?_⟩
  ·conv=>whnf
   exact ak.bool (ig (d:=0) hi' h4)
  ·conv=>whnf
   refine .mk (by simp only[okI] at *; first|omega|(simp_all; done)|(simp_all; omega)) ?_;refine⟨i+1,⟨by omega,?_⟩,by omega,⟨⟨_,rfl,rfl⟩,trivial⟩,?_,rfl⟩
   ·rw[jS (d:=0) hi' hall]; exact h4
   ·repeat' (first|exact trivial|exact⟨_,rfl,rfl⟩|constructor)
 ·have hi':l.length<=i:=by simpa using h3
  rw[List.take_of_length_le hi'] at hall;exact ak.bool hall
def ZM(c l:List Int):Bool:=(List.range c.length).any fun i=>decide (c.getD i 0>0)&& !(Ji l i)
def wL(ex c:List Int)(i:Nat):Bool:=((ex.length:Int)==0)||(List.range i).any fun j=> !(c.getD j 0==0)&&Ji ex j
def Bo(al c:List Int)(i:Nat):Bool:=(List.range i).any fun j=> !(c.getD j 0==0)&&(decide ((al.length:Int)>0)&& !(Ji al j))
def qR(r:Rule)(c:List Int):Bool:= !(Bo r.all c c.length)&&wL r.ex c c.length
theorem J3{ex c:List Int}{i:Nat}:wL ex c (i+1)=(wL ex c i||(!(c.getD i 0==0)&&Ji ex i)):=by
 simp only[wL,List.range_succ,List.any_append,List.any_cons,List.any_nil,Bool.or_false,Bool.or_assoc]
theorem J4{al c:List Int}{i:Nat}:Bo al c (i+1)=(Bo al c i||(!(c.getD i 0==0)&&(decide ((al.length:Int)>0)&& !(Ji al i)))):=by
 simp only[Bo,List.range_succ,List.any_append,List.any_cons,List.any_nil,Bool.or_false]
theorem ZN{al c:List Int}{i:Nat}(hi:i<c.length)(h0:(c.getD i 0==0)=false)(h:(decide ((al.length:Int)>0)&& !(Ji al i))=true):Bo al c c.length=true :=
 yY.2 ⟨i,hi,by rw[h0,h]; rfl⟩
theorem S.nR(r:Rule)(c:List Int)(f:Bool)(hr:vg r)(hc:c.length<2^40):aj Tryz.prog 106 [.dat (.rule r),.row 0 f (.ints c)] (.bool (qR r c)):=by
 have g1:=hr.ex; have g2:=hr.all;refine aj.of Bd.nR (by simp) rfl rfl ?_;refine aA.same [2,12,13] (fun i:Nat=>[(14,.int i),(5,.bool (wL r.ex c i))]) (fun i=>i<=c.length/\Bo r.all c i=false) (fun i=>c.length-i) 0 rfl (by decide) rfl (fun _=>rfl) ⟨by omega,rfl⟩ ⟨⟨_,rfl,rfl⟩,⟨_,rfl,?_⟩,trivial⟩ ?_
 ·show(V.bool (wL r.ex c 0)).aH=(V.bool ((r.ex.length:Int)==0)).aH;rw[wL]; simp
 refine⟨rfl,?_⟩;rintro i ⟨hi,hall⟩;refine⟨fun h3=>?_,fun h3=>?_⟩
 ·have hi':i<c.length:=by simpa using h3
  refine .mk (by simp only[Rw.rng] at *; omega) ?_;refine⟨fun h4=>?_,fun h4=>?_⟩
  ·replace h4:(c.getD i 0==0)=true:=h4;refine .mk (by simp only[okI] at *; omega) ?_;refine⟨i+1,⟨by omega,by rw[J4,hall,h4]; rfl⟩,by omega,⟨⟨_,rfl,rfl⟩,⟨_,rfl,?_⟩,trivial⟩,?_,rfl⟩
   ·rw[J3,h4]; simp[V.aH]
   ·repeat' (first|exact trivial|exact⟨_,rfl,rfl⟩|constructor)
  ·replace h4:(c.getD i 0==0)=false:=h4;repeat(refine VC.mk (by first|exact id|exact fun h=>⟨h,h⟩) ?_)
   refine ah.fV (fun _=>S.slices_Contains_int r.ex i false (by omega)) rfl ?_;repeat(refine VC.mk (by first|exact id|exact fun h=>⟨h,h⟩|(intro h; rw[h]; rfl)) ?_)
   refine ah.fV (fun _=>S.slices_Contains_int r.all i false (by omega)) rfl ?_;repeat(refine VC.mk id ?_)
   refine⟨fun h5=>?_,fun h5=>?_⟩
   ·conv=>whnf
    exact ak.bool (by rw[qR,ZN hi' h4 h5]; rfl)
   ·conv=>whnf
    refine .mk (by simp only[okI] at *; omega) ?_;refine⟨i+1,⟨by omega,by rw[J4,hall,h4]; simpa using h5⟩,by omega,⟨⟨_,rfl,rfl⟩,⟨_,rfl,?_⟩,trivial⟩,?_,rfl⟩
    ·rw[J3,h4]; simp[V.aH,tJ]
    ·repeat' (first|exact trivial|exact⟨_,rfl,rfl⟩|constructor)
 ·have hi':c.length<=i:=by simpa using h3
  have e:i=c.length:=Nat.le_antisymm hi hi';subst e;exact ak.bool (by rw[qR,hall]; rfl)
structure oN(n:Nat)(r:Rule):Prop where
 src:0<=r.fr/\r.fr<n
 dst:0<=r.to/\r.to<n
 agm:0<=r.je/\r.je<n
 agn:0<=r.zQ/\r.zQ<n
 rsp:r.kind=3->r.response.length=n/\qQ n r.response
 exs:qQ n r.ex
def Nw(c:List Int):Prop:= ∀ x∈c,0<=x/\x<=1048576
def aS(c:List Int)(i d:Int):List Int:=c.set i.toNat (c.getD i.toNat 0+d)
def Ny(c:List Int)(i:Int):List Int:=c.set i.toNat (c.getD i.toNat 0-1)
theorem AL{h:Hz}{j:Nat}{Z:Nat->Prop}{l:List Int}(hz:Z j)(q:h.get j=some (.row 3 0 (.ints l) [])):T.sub Z h.ay (V.row 0 false (.ints l)).aH (V.own j).aH:=by
 show T.sub Z h.ay (.sl 0 false (l.map T.int)) (.own j);simp only[T.sub];refine⟨trivial,hz,?_,by decide,3,?_⟩
 ·rw[fU]; intro t ht; obtain⟨x,_,rfl⟩:=List.mem_map.1 ht; rfl
 ·have:=aK q;rw[this]; simp[OV.au,Rw.aT,V.aT]
theorem Bq{n:Nat}(h:0<n):(bif isZero (.int n) then some Rw.nil else ZO (n:Int).toNat (T.int 0))=some (.ints (List.replicate n 0)):=by
 cases n with
 |zero=>omega
 |succ k=>rfl
abbrev iV(l:List Int):OV:=.row 3 0 (.ints l) []
end Go.Proofs.YtkmldgihhaooaaaGreatDoor
namespace Go.Proofs.YtkmldgihhaooaaaGreatDoor
open Go.Ab Go.Proofs
set_option maxRecDepth 100000
theorem Jv{l:List Int}{s:Int}:Ji l s=true↔s∈l:=by
 simp only[Ji,List.any_eq_true,beq_iff_eq];constructor
 ·rintro⟨x,h,rfl⟩; exact h
 ·intro h; exact⟨s,h,rfl⟩
theorem found_eq{ex c:List Int}(hc: ∀ i,0<=c.getD i 0)(hx:qQ c.length ex):(!(wL ex c c.length))=(decide (0<(ex.length:Int))&& !(IZ c ex)):=by
 have h:wL ex c c.length=(!(decide (0<(ex.length:Int)))||IZ c ex):=by
  rw[wL]
  congr 1
  ·rw[Bool.eq_iff_iff]; simp
  ·rw[Bool.eq_iff_iff];simp only[IZ,List.mem_range,Bool.and_eq_true,decide_eq_true_eq,Bool.not_eq_true',beq_eq_false_iff_ne,ne_eq,List.any_eq_true,Jv];constructor
   ·rintro⟨i,h1,h2,h3⟩;exact⟨i,h3,by have:=hc i; simp only[Int.toNat_natCast]; omega⟩
   ·rintro⟨q,h1,h2⟩;obtain⟨t1,t2⟩:=hx q h1;have t3:q.toNat<c.length:=by omega
    have t4: ¬ c.getD q.toNat 0=0:=by omega
    exact⟨q.toNat,t3,t4,by rw[Int.toNat_of_nonneg t1]; exact h1⟩
 rw[h]; cases decide (0<(ex.length:Int))<;>cases IZ c ex<;>rfl
theorem Fj{ρ:Nat->Nat}{nx pn c n:Nat}{h:Hz}{s:List Nat}{o:OV}(a:(Nat.blt c nx&&(!(Nat.blt c pn)||Nat.beq n c)&&oO n s&&(o.good nx&&o.Dl))=true)(b:(h.get n).map OV.au=some o.au):Nat.blt c nx=true/\(Nat.blt c pn=true->n=c)/\oO n s=true/\o.good nx=true /\
   ∃ o',h.get n=some o'/\o'.au.ty=o.au.ty/\o'.au.k=o.au.k/\dU (T.bJ ρ o.au.l) o'.au.l:=by
 simp only[Bool.and_eq_true,Bool.or_eq_true,Bool.not_eq_true'] at a;obtain⟨⟨⟨a1,a2⟩,a3⟩,a4,a5⟩:=a;obtain⟨o',b1,b2⟩:=Option.map_eq_some_iff.1 b;exact⟨a1,fun h=>a2.elim (fun q=>by rw[q] at h; cases h) fC,a3,a4,o',b1,by rw[b2],by rw[b2],by rw[OV.dV a5,b2]; exact .refl _⟩
theorem okJ{ρ:Nat->Nat}{nx pn c n:Nat}{h:Hz}{s:List Nat}{o o':OV}(a:(Nat.blt c nx&&(!(Nat.blt c pn)||Nat.beq n c)&&oO n s)=true)(g:o.good nx=true)(b:h.get n=some o')(t:o'.au.ty=o.au.ty/\o'.au.k=o.au.k)(l:dU (T.bJ ρ o.au.l) o'.au.l):Nat.blt c nx=true/\(Nat.blt c pn=true->n=c)/\oO n s=true/\o.good nx=true /\
   ∃ o',h.get n=some o'/\o'.au.ty=o.au.ty/\o'.au.k=o.au.k/\dU (T.bJ ρ o.au.l) o'.au.l:=by
 simp only[Bool.and_eq_true,Bool.or_eq_true,Bool.not_eq_true'] at a;obtain⟨⟨a1,a2⟩,a3⟩:=a;exact⟨a1,fun h=>a2.elim (fun q=>by rw[q] at h; cases h) fC,a3,g,o',b,t.1,t.2,l⟩
theorem okF{ρ:Nat->Nat}{nx pn c n:Nat}{h:Hz}{s:List Nat}{o o':OV}(q1:Nat.blt c nx=true)(q2:Nat.blt c pn=true->n=c)(q3:oO n s=true)(q4:(o.good nx&&o.Dl)=true)(q5:h.get n=some o')
  (q6:o'.au.ty=o.au.ty/\o'.au.k=o.au.k) (q7:o.au.l=o'.au.l):Nat.blt c nx=true/\(Nat.blt c pn=true->n=c)/\oO n s=true/\o.good nx=true /\
   ∃ o',h.get n=some o'/\o'.au.ty=o.au.ty/\o'.au.k=o.au.k/\dU (T.bJ ρ o.au.l) o'.au.l:=by
 rw[Bool.and_eq_true] at q4;exact⟨q1,q2,q3,q4.1,o',q5,q6.1,q6.2,dU.of_eq ((OV.dV q4.2 ρ).trans q7)⟩
theorem bz{c:Bool}{a b:Int}(ha:c=true->a≠0)(h:(bif c then a else b)=0):c=false/\b=0:=by
 cases c with
 |true=>exact absurd h (ha rfl)
 |false=>exact⟨rfl,h⟩
theorem nz{a:Int}(h:(a !=0)=true):a≠0:=by simpa using h
theorem kX: ∀ {l:List Int},bC l=0-> ∀ x∈l,x=0:=by
 intro l;induction l with
 |nil=>intro _ x h; cases h
 |cons a r ih =>
  intro h x hx;simp only[bC] at h;split at h
  ·rename_i h0;rcases List.mem_cons.1 hx with rfl|hx
   ·exact h0
   ·exact ih h x hx
  ·rename_i h0; exact absurd h h0
structure O9(p:aJ):Prop where
 pos:0<p.states.length
 states:p.states.length<=6
 values:p.values.length<=3
 aeZ:p.rules.length<=8
 init:iW p.initial p.states.length=0
 start:p.initial≠[]
 rule: ∀ i,i<p.rules.length->gW p i=0
theorem J5{p:aJ}(h:bD p=0):O9 p:=by
 unfold bD at h;obtain⟨_,h⟩:=bz (fun _=>by decide) h;obtain⟨_,h⟩:=bz (fun _=>by decide) h;obtain⟨h0,h⟩:=bz (fun _=>by decide) h;obtain⟨h1,h⟩:=bz (fun _=>by decide) h;obtain⟨_,h⟩:=bz nz h;obtain⟨_,h⟩:=bz (fun _=>by decide) h;obtain⟨_,h⟩:=bz (fun _=>by decide) h;obtain⟨h2,h⟩:=bz nz h;obtain⟨h3,h⟩:=bz nz h;have h2':yZ p=0:=by simpa using h2
 have h3':Eu p=0:=by simpa using h3
 have g:=kX h2';simp only[wM,Bool.or_eq_false_iff,decide_eq_false_iff_not] at h1;refine⟨?_,by omega,by omega,by omega,g _ (by simp),?_,fun i hi=>?_⟩
 ·have:(p.states.length:Int)≠0:=by simpa using h0
  omega
 ·intro e;have:=g (dM ((p.initial.length:Int)==0) 1) (by simp);rw[e] at this; exact absurd this (by decide)
 ·exact kX h3' _ (List.mem_map.2 ⟨i,by simpa using hi,rfl⟩)
theorem vK{x:Int}{n:Nat}(h:pG x n=false):0<=x/\x<n:=by
 simp only[pG,Bool.or_eq_false_iff,decide_eq_false_iff_not] at h; omega
theorem Ew{x:Int}{n:Nat}(h:cO x n=0):0<=x/\x<n:=by
 refine vK ?_;unfold cO dM at h;cases hb:pG x n with
 |false=>rfl
 |true=>rw[hb] at h; exact absurd h (by decide)
theorem Ho{l:List Int}{n:Nat}(h:iW l n=0):qQ n l:=by
 unfold iW at h;obtain⟨h,_⟩:=bz (fun _=>by decide) h;rw[List.any_eq_false] at h;exact fun q hq=>vK (by simpa using h q hq)
theorem QI{n:Nat}: ∀ {l:List Int},qU l n=0->qQ n l:=by
 intro l;induction l with
 |nil=>intro _ q h; cases h
 |cons x r ih =>
  intro h q hq;simp only[qU] at h;split at h
  ·rename_i h0;rcases List.mem_cons.1 hq with rfl|hq
   ·exact Ew h0
   ·exact ih h q hq
  ·rename_i h0; exact absurd h h0
theorem XH{k:Int}(h:vI k 1=true):k=1\/k=2\/k=3:=by
 unfold vI at h;cases h1:(k==1) with
 |true=>exact .inl (beq_iff_eq.1 h1)
 |false =>
  cases h2:(k==2) with
  |true=>exact .inr (.inl (beq_iff_eq.1 h2))
  |false =>
   cases h3:(k==3) with
   |true=>exact .inr (.inr (beq_iff_eq.1 h3))
   |false=>rw[h1,h2,h3] at h; cases hb:(k==4||k==5)<;>rw[hb] at h<;>cases h
structure ZP(n:Nat)(p:aJ)(r:Rule):Prop where
 place:oN n r
 kind:r.kind=1\/r.kind=2\/r.kind=3
 ah0:qQ n r.all
 ex1:r.kind≠1->r.ex=[]/\r.all=[]
 rd:pG r.read p.values.length=false\/r.read= -1
 wr:pG r.write p.values.length=false\/r.write= -1
theorem tX{p:aJ}{v:Int}(h:jT p v=0):pG v p.values.length=false\/v= -1:=by
 unfold jT dM at h;have h': ¬ (v< -1\/v>=(p.values.length:Int)):=by
  intro q
  have:(decide (v< -1)||decide (v>=(p.values.length:Int)))=true:=by simpa using q
  rw[this] at h; exact absurd h (by decide)
 by_cases e:v= -1
 ·exact .inr e
 ·left;simp only[pG,Bool.or_eq_false_iff,decide_eq_false_iff_not]; omega
theorem agp{p:aJ}{i:Nat}(hv:O9 p)(ht:p.topology=1)(hi:i<p.rules.length):ZP p.states.length p (p.rules.getD i default):=by
 have h:=hv.rule i hi;have hpos:=hv.pos;simp only[gW,rU] at h;generalize (p.rules.getD i default)=r at h ⊢;obtain⟨_,h⟩:=bz (fun _=>by decide) h;obtain⟨hb,h⟩:=bz (fun _=>by decide) h;obtain⟨he,h⟩:=bz nz h;rw[Jw,Bool.or_eq_false_iff] at he;rw[ht,Bool.or_eq_false_iff] at hb;have hk:=XH (show vI r.kind 1=true by simpa using hb.1);have hu:mG r 1=false:=by rw[Bv (by omega)]; exact hb.2
 have hun:=Nz hu;have hpf:r.kind≠2->r.kind≠5->r.je=0/\r.zQ=0:=by
  intro k1 k2;simp only[mG,V7,Bool.or_eq_false_iff] at hu;have h3:=hu.2.2.1;simp only[beq_eq_false_iff_ne.2 k1,beq_eq_false_iff_ne.2 k2,Bool.not_false,Bool.true_and,Bool.or_eq_false_iff] at h3;exact⟨UA h3.1,UA h3.2⟩
 have h00:(0:Int)<=0/\(0:Int)<p.states.length:=⟨by omega,by omega⟩
 have pn:qQ p.states.length []:=fun q hq=>by cases hq
 rcases hk with e|e|e
 ·rw[e] at h;have g:=kX h;have⟨a,b⟩:=hpf (by omega) (by omega);exact⟨⟨vK he.1,vK he.2,by rw[a]; exact h00,by rw[b]; exact h00,fun q=>by omega,Ho (g (iW r.ex p.states.length) (by simp))⟩,.inl e,Ho (g (iW r.all p.states.length) (by simp)),fun q=>absurd e q,tX (g (jT p r.read) (by simp)),tX (g (jT p r.write) (by simp))⟩
 ·rw[e] at h;have g:=kX h;obtain⟨_,u1,u2,_⟩:=hun.1 (by omega);exact⟨⟨vK he.1,vK he.2,Ew (g (cO r.je p.states.length) (by simp)),Ew (g (cO r.zQ p.states.length) (by simp)),fun q=>by omega,by rw[u1]; exact pn⟩,.inr (.inl e),by rw[u2]; exact pn,fun _=>⟨u1,u2⟩,tX (g (jT p r.read) (by simp)),tX (g (jT p r.write) (by simp))⟩
 ·rw[e] at h;have g:=kX h;have⟨a,b⟩:=hpf (by omega) (by omega);obtain⟨_,u1,u2,_⟩:=hun.1 (by omega);have hr:=g (Fv r.response p.states.length) (by simp);unfold Fv at hr;obtain⟨r1,r2⟩:=bz (fun _=>by decide) hr;exact⟨⟨vK he.1,vK he.2,by rw[a]; exact h00,by rw[b]; exact h00,fun _=>⟨by have q9:(r.response.length:Int)=p.states.length:=(by simpa using r1); omega,QI r2⟩,by rw[u1]; exact pn⟩,.inr (.inr e),by rw[u2]; exact pn,fun _=>⟨u1,u2⟩,tX (g (jT p r.read) (by simp)),tX (g (jT p r.write) (by simp))⟩
theorem XI{p:aJ}(h:rV p=true):p.topology=1:=by
 simp only[rV,Bool.and_eq_true,beq_iff_eq] at h; exact h.1.1.1
structure Ey(p:aJ)(e:Elem):Prop where
 valid:O9 p
 plain:rV p=true
 len:e.counts.length=p.states.length
 nums:Nw e.counts
 val:0<=e.value/\e.value<max 1 (p.values.length:Int)
theorem XJ{p:aJ}(h:XK p=0):bD p=0/\rV p=true:=by
 unfold XK at h;obtain⟨h1,h⟩:=bz nz h;obtain⟨h2,_⟩:=bz (fun _=>by decide) h;refine⟨by simpa using h1,?_⟩;simp only[iq] at h2;cases hp:rV p with
 |true=>rfl
 |false=>rw[hp] at h2; simp at h2
theorem Hq{b:Bool}{n:Int}(h:dM b n=0)(hn:n≠0):b=false:=by
 cases b with
 |false=>rfl
 |true=>exact absurd h hn
theorem V8{x:Int}:Bh x=true↔0<=x/\x<=1048576:=by simp[Bh]
theorem ae0{p:aJ}{e:Elem}(h:jU p e=false):e.counts.length=p.states.length/\Nw e.counts/\0<=e.value/\e.value<max 1 (p.values.length:Int):=by
 simp only[jU,Bool.or_eq_false_iff,decide_eq_false_iff_not] at h;obtain⟨⟨⟨h1,h2⟩,h3⟩,h4⟩:=h;refine⟨?_,fun x hx=>?_,by omega,by omega⟩
 ·have:(e.counts.length:Int)=p.states.length:=by simpa using h1
  omega
 ·have:e.counts.all Bh=true:=by simpa using h2
  exact V8.1 (List.all_eq_true.1 this x hx)
theorem ahl{p:aJ}{e:Elem}(h:V9 p e=0):Ey p e:=by
 unfold V9 at h;obtain⟨h1,h⟩:=bz nz h;obtain⟨h2,h3⟩:=XJ (by simpa using h1);obtain⟨a,b,c⟩:=ae0 (Hq h (by decide));exact⟨J5 h2,h3,a,b,c⟩
theorem y5{c:List Int}{i d:Int}:(aS c i d).length=c.length:=by simp[aS]
end Go.Proofs.YtkmldgihhaooaaaGreatDoor
namespace Go.Proofs.YtkmldgihhaooaaaGreatDoor
open Go.Ab Go.Proofs
set_option maxRecDepth 100000
theorem ah.tidy{h:Hz}{i n:Nat}{l:List Elem}{K:V->Hz->Prop}{KW:Nat->V->Hz->Prop}(hi:h.get i=some (bI l))(hn:h.get n=none)(hl:l.length<2^30)(hs:dX l)
  (h1:K (.own i) ((i,some (bI (rC l)))::h)) (h2: ∀ m,K (.qw i 0 (rC l).length) ((i,some (.row 35 3 (.elems (rC l)) (List.replicate m zeroV)))::h)):ah Tryz.prog false none 64 [.own i] h n K KW:=by
 refine ah.Pg (ts:=[.own 0]) (S.tY l 1 hl hs) rfl rfl rfl rfl hi hn ?_;rintro t hp (⟨rfl,rfl⟩|⟨m,rfl,rfl⟩)
 ·exact .inl ⟨.own i,bI (rC l),rfl,rfl,rfl,h1⟩
 ·exact .inl ⟨.qw i 0 _,.row 35 3 (.elems (rC l)) (List.replicate m zeroV),rfl,Fz _ _,rfl,h2 m⟩
theorem ak.wO{h:Hz}{k:Nat}{c:Int}:ak (.eX [.row 3 false (.elems []),.int c]) (.eX [.row k true .nil,.int c]) h:=⟨by
 show T.sub (fun _=>True) h.ay (.eX [.sl 3 false [],.int c]) (.eX [.sl k true [],.int c])
 simp[T.sub,T.dD]⟩
end Go.Proofs.YtkmldgihhaooaaaGreatDoor
namespace Go.Proofs.YtkmldgihhaooaaaGreatDoor
open Go.Ab Go.Proofs
set_option maxRecDepth 100000
theorem QJ{a b:List Int}(h:ny a b=true)(i:Nat):a.getD i 0<=b.getD i 0:=by
 obtain⟨h1,h2⟩:=nC.1 h;by_cases hi:i<a.length
 ·exact h2 i hi
 ·rw[show a.getD i 0=0 by simp[List.getD_eq_getElem?_getD,List.getElem?_eq_none (by omega:a.length<=i)],show b.getD i 0=0 by simp[List.getD_eq_getElem?_getD,List.getElem?_eq_none (by omega:b.length<=i)]];exact Int.le_refl _
theorem Hr{c:List Int}{i d:Int}{j:Nat}:(aS c i d).getD j 0=if j=i.toNat/\j<c.length then c.getD j 0+d else c.getD j 0:=by
 unfold aS;rw[List.getD_eq_getElem?_getD,List.getElem?_set];by_cases h:i.toNat=j
 ·subst h;by_cases h2:i.toNat<c.length
  ·simp[h2]
  ·simp[h2]
 ·rw[if_neg h,if_neg (fun q=>h q.1.symm),List.getD_eq_getElem?_getD]
theorem acJ: ∀ {l:List Rule} {acc:Bool},l.foldl QK acc=false->acc=false/\ ∀ r∈l,r.all=[]:=by
 intro l;induction l with
 |nil=>intro acc h; exact⟨h,fun r hr=>by cases hr⟩
 |cons x l ih =>
  intro acc h;obtain⟨h1,h2⟩:=ih h;simp only[QK,Bool.or_eq_false_iff] at h1;refine⟨h1.1,fun r hr=>?_⟩;rcases List.mem_cons.1 hr with rfl|hr
  ·exact len_nil h1.2
  ·exact h2 r hr
theorem XL{p:aJ}(h:(iq p).cover=true):rV p=true/\ ∀ r∈p.rules,r.all=[]:=by
 simp only[iq,Bool.and_eq_true,Bool.not_eq_true'] at h;exact⟨h.1,(acJ h.2).2⟩
theorem UC{p:aJ}{e:Elem}(h1:bD p=0)(h2:(iq p).cover=true)(h3:jU p e=false):V9 p e=0:=by
 have:XK p=0:=by
  unfold XK;rw[show(bD p !=0)=false by simp[h1],h2]; rfl
 rw[V9,this,h3]; rfl
structure jw(q:Prop'):Prop where
 start:q.start.length<2^30
 bad:q.bad.length<2^30
 adjacent:q.adjacent.length<2^30
 goal:q.goal.length<2^30
 cnt: ∀ i,(q.bad.getD i default).states.length<2^30
def qG(c:Cnt):Bool:=((c.states.length:Int)==0||decide (c.least<1))||decide (c.least>3)
def MW(n:Int)(c:Cnt):Int:=bC [iW c.states n,dM (qG c) 1]
def vM(l:List Cnt)(n:Int):Int:=bC (l.map (MW n))
def Jj(p:aJ)(l:List Int):Int:=bif (l.length:Int)==0 then 0 else bif p.topology==1 then 6 else bif (l.length:Int) !=2 then 1 else bC [cO (l.getD 0 0) p.states.length,cO (l.getD 1 0) p.states.length]
def vN(q:Prop'):Bool:=((q.kind==1)&&decide ((q.goal.length:Int)>0))||(!(q.kind==1)&&(decide ((q.bad.length:Int)>0)||decide ((q.adjacent.length:Int)>0)))
def jE(p:aJ)(q:Prop'):Int :=
 let n:Int:=p.states.length
 bif bD p !=0 then bD p else bif !(validName q.name) then 2 else bif !(q.kind==1)&&q.kind !=2 then 1 else bif vN q then 1 else
 bif iW q.start n !=0 then iW q.start n else bif q.start.any (fun x=> !(Ji p.initial x)) then 5 else
 bif !(q.kind==1) then bC [iW q.goal n,dM ((q.goal.length:Int)==0) 1] else
 bC [dM (((q.bad.length:Int)==0)&&((q.adjacent.length:Int)==0)) 1,dM (decide ((q.bad.length:Int)>3)) 4,vM q.bad n,Jj p q.adjacent]
theorem S.nD(l:List Cnt)(n:Int)(f:Bool)(hl:l.length<2^30)(hs: ∀ i,(l.getD i default).states.length<2^30):aj Tryz.prog 112 [.row 3 f (.cnts l),.int n] (.int (vM l n)):=by
 refine aj.of Bd.nD (by simp) rfl rfl ?_;refine aA.same [1,8,9] (fun i:Nat=>[(10,.int i)]) (fun i=>i<=l.length/\vM l n=bC ((l.drop i).map (MW n))) (fun i=>l.length-i) 0 rfl (by decide) rfl (fun _=>rfl) ⟨by omega,by simp[vM]⟩ ⟨⟨_,rfl,rfl⟩,trivial⟩ ?_;refine⟨rfl,?_⟩;rintro i ⟨hi,hall⟩;refine⟨fun h3=>?_,fun h3=>?_⟩
 ·have hi':i<l.length:=by simpa using h3
  rw[bY default hi',List.map_cons] at hall;simp only[bC] at hall;have hc:=hs i;refine .mk (by simp only[Rw.rng] at *; omega) ?_;refine ah.pure (S.eP (l.getD i default).states n false (by omega)) rfl ?_;repeat(refine VC.mk (by first|exact id|(intro h; rw[h]; rfl)) ?_)
  refine ah.pure (S.bT (qG (l.getD i default)) 1) rfl ?_;refine ah.pure (S.bK [iW (l.getD i default).states n,dM (qG (l.getD i default)) 1] true (show 2<2^40 by decide)) rfl ?_;refine⟨fun h4=>?_,fun h4=>?_⟩
  ·conv=>whnf
   refine ak.int ?_;have h4':MW n (l.getD i default)≠0:=nz h4;rw[hall,if_neg h4']; rfl
  ·conv=>whnf
   refine .mk (by simp only[okI] at *; omega) ?_;conv=>whnf
   have h4':MW n (l.getD i default)=0:=Dn h4;rw[if_pos h4'] at hall;refine⟨i+1,⟨by omega,hall⟩,by omega,⟨⟨_,rfl,rfl⟩,trivial⟩,?_,rfl⟩;repeat' (first|exact trivial|exact⟨_,rfl,rfl⟩|constructor)
 ·have hi':l.length<=i:=by simpa using h3
  rw[List.drop_eq_nil_of_le hi'] at hall;exact ak.int (by rw[hall]; rfl)
theorem S.kS(p:aJ)(l:List Int)(f:Bool)(_hl:l.length<2^30):aj Tryz.prog 113 [.dat (.fQ p),.row 0 f (.ints l)] (.int (Jj p l)):=by
 refine aj.of Bd.kS (by simp) rfl rfl ?_;refine⟨fun h1=>?_,fun h1=>?_⟩
 ·conv=>whnf
  exact ak.int (by rw[Jj,h1]; rfl)
 refine⟨fun h2=>?_,fun h2=>?_⟩
 ·conv=>whnf
  exact ak.int (by rw[Jj,h1,h2]; rfl)
 refine⟨fun h3=>?_,fun h3=>?_⟩
 ·conv=>whnf
  exact ak.int (by rw[Jj,h1,h2,h3]; rfl)
 have h4:l.length=2:=by
  have:(l.length:Int)=2:=by simpa using h3
  omega
 repeat(refine VC.mk (by simp only[Rw.rng] at *; omega) ?_)
 refine ah.pure (S.bV (l.getD 0 0) p.states.length) rfl ?_;refine ah.pure (S.bV (l.getD 1 0) p.states.length) rfl ?_;refine ah.pure (S.bK [cO (l.getD 0 0) p.states.length,cO (l.getD 1 0) p.states.length] true (show 2<2^40 by decide)) rfl ?_;exact ak.int (by rw[Jj,h1,h2,h3]; rfl)
theorem S.eH(p:aJ)(q:Prop')(hp:dW p)(hq:jw q):aj Tryz.prog 68 [.dat (.fQ p),.dat (.prop q)] (.int (jE p q)):=by
 have g1:=hp.states; have g5:=hp.initial;have q1:=hq.start; have q2:=hq.bad; have q3:=hq.adjacent; have q4:=hq.goal;refine aj.of Bd.eH (by simp) rfl rfl ?_;refine ah.pure (S.jk p hp) rfl ?_;refine⟨fun h1=>?_,fun h1=>?_⟩
 ·conv=>whnf
  exact ak.int (by rw[jE,h1]; rfl)
 refine ah.pure (S.gK q.name) rfl ?_;refine⟨fun h2=>?_,fun h2=>?_⟩
 ·conv=>whnf
  exact ak.int (by rw[jE,h1,h2]; rfl)
 repeat(refine VC.mk id ?_)
 refine⟨fun h3=>?_,fun h3=>?_⟩
 ·conv=>whnf
  exact ak.int (by rw[jE,h1,h2,h3]; rfl)
 repeat(refine VC.mk id ?_)
 refine⟨fun h4=>?_,fun h4=>?_⟩
 ·conv=>whnf
  refine Fork.mk (fun _=>?_) (fun q=>absurd (q.symm.trans (h4)) Bool.false_ne_true);exact ak.int (by rw[jE,h1,h2,h3,show vN q=true by rw[vN]; erw [h4]; rfl]; rfl)
 repeat(refine VC.mk (by first|exact id|(intro h; simp_all; done)) ?_)
 refine⟨fun h5=>?_,fun h5=>?_⟩
 ·conv=>whnf
  exact ak.int (by rw[jE,h1,h2,h3,show vN q=true by rw[vN]; erw [h5]; simp]; rfl)
 have h45:vN q=false:=by rw[vN]; erw [h4,h5]; rfl
 refine ah.pure (S.eP q.start p.states.length false (by omega)) rfl ?_;refine⟨fun h6=>?_,fun h6=>?_⟩
 ·conv=>whnf
  exact ak.int (by rw[jE,h1,h2,h3,h45,h6]; rfl)
 refine aA.same [2,3,6,7,65,66] (fun i:Nat=>[(67,.int i)]) (fun i=>i<=q.start.length/\(q.start.take i).any (fun x=> !(Ji p.initial x))=false) (fun i=>q.start.length-i) 0 rfl (by decide) rfl (fun _=>rfl) ⟨by omega,by simp⟩ ⟨⟨_,rfl,rfl⟩,trivial⟩ ?_;refine⟨rfl,?_⟩;rintro i ⟨hi,hall⟩;refine⟨fun h7=>?_,fun h7=>?_⟩
 ·have hi':i<q.start.length:=by simpa using h7
  refine .mk (by simp only[Rw.rng] at *; omega) ?_;refine ah.pure (S.slices_Contains_int p.initial (q.start.getD i 0) false (by omega)) rfl ?_;refine⟨fun h8=>?_,fun h8=>?_⟩
  ·conv=>whnf
   exact ak.int (by rw[jE,h1,h2,h3,h45,h6,ig (d:=0) hi' h8]; rfl)
  ·conv=>whnf
   refine .mk (by simp only[okI] at *; omega) ?_;refine⟨i+1,⟨by omega,?_⟩,by omega,⟨⟨_,rfl,rfl⟩,trivial⟩,?_,rfl⟩
   ·rw[jS (d:=0) hi' hall]; exact h8
   ·repeat' (first|exact trivial|exact⟨_,rfl,rfl⟩|constructor)
 have hi':q.start.length<=i:=by simpa using h7
 rw[List.take_of_length_le hi'] at hall;refine⟨fun h8=>?_,fun h8=>?_⟩
 ·conv=>whnf
  refine ah.pure (S.eP q.goal p.states.length false (by omega)) rfl ?_;refine ah.pure (S.bT ((q.goal.length:Int)==0) 1) rfl ?_;refine ah.pure (S.bK [iW q.goal p.states.length,dM ((q.goal.length:Int)==0) 1] true (show 2<2^40 by decide)) rfl ?_;exact ak.int (by rw[jE,h1,h2,h3,h45,h6,hall,h8]; rfl)
 repeat(refine VC.mk id ?_)
 refine ah.pure (S.bT (((q.bad.length:Int)==0)&&((q.adjacent.length:Int)==0)) 1) rfl ?_;refine ah.pure (S.bT (decide ((q.bad.length:Int)>3)) 4) rfl ?_;refine ah.pure (S.nD q.bad p.states.length false q2 hq.cnt) rfl ?_;refine ah.pure (S.kS p q.adjacent false q3) rfl ?_;refine ah.pure (S.bK [dM (((q.bad.length:Int)==0)&&((q.adjacent.length:Int)==0)) 1,dM (decide ((q.bad.length:Int)>3)) 4,vM q.bad p.states.length,Jj p q.adjacent] true (show 4<2^40 by decide)) rfl ?_;exact ak.int (by rw[jE,h1,h2,h3,h45,h6,hall,h8]; rfl)
theorem S.FB(l:List Int)(s:Int)(f:Bool)(hl:l.length<2^40):aj Tryz.prog 81 [.row 0 f (.ints l),.int s] (.bool (Ji l s)):=by
 refine aj.of Bd.FB (by simp) rfl rfl ?_;refine aA.same [0,1] (fun i:Nat=>[(5,.int i)]) (fun i=>i<=l.length/\(l.take i).any (fun x=>s==x)=false) (fun i=>l.length-i) 0 rfl (by decide) rfl (fun _=>rfl) ⟨by omega,by simp⟩ ⟨⟨_,rfl,rfl⟩,trivial⟩ ?_;refine⟨rfl,?_⟩;rintro i ⟨hi,hall⟩;refine⟨fun h3=>?_,fun h3=>?_⟩
 ·have hi':i<l.length:=by simpa using h3
  refine .mk (by simp only[Rw.rng] at *; omega) ?_;refine⟨fun h4=>?_,fun h4=>?_⟩
  ·have h4':(s==l.getD i 0)=true:=by rw[show(s==l.getD i 0)=(l.getD i 0==s) from Bool.beq_comm]; exact h4
   exact ak.bool (ig (d:=0) hi' h4')
  ·have h4':(s==l.getD i 0)=false:=by rw[show(s==l.getD i 0)=(l.getD i 0==s) from Bool.beq_comm]; exact h4
   refine .mk (by simp only[okI] at *; omega) ?_;refine⟨i+1,⟨by omega,?_⟩,by omega,⟨⟨_,rfl,rfl⟩,trivial⟩,?_,rfl⟩
   ·rw[jS (d:=0) hi' hall]; exact h4'
   ·repeat' (first|exact trivial|exact⟨_,rfl,rfl⟩|constructor)
 ·have hi':l.length<=i:=by simpa using h3
  rw[List.take_of_length_le hi'] at hall;exact ak.bool hall
theorem acK{p:aJ}{l:List Int}(h1:(decide ((l.length:Int)>0)&&(p.topology==1))=false)(h2:((l.length:Int) !=0&&(l.length:Int) !=2)=false):Jj p l=bif l.any (fun x=>pG x p.states.length) then 5 else 0:=by
 unfold Jj;rcases l with _|⟨a,_|⟨b,_|⟨c,r⟩⟩⟩
 ·rfl
 ·simp at h2
 ·have ht:(p.topology==1)=false:=by simpa using h1
  rw[ht];simp only[List.length_cons,List.length_nil,List.getD_cons_zero,List.getD_cons_succ,List.any_cons,List.any_nil,Bool.or_false,cO];cases pG a p.states.length<;>cases pG b p.states.length<;>rfl
 ·simp at h2; omega
theorem UD{c:Cnt}:qG c=((c.states.length:Int)==0|| !(iw c.least 1 3)):=by
 rw[qG,pI,Bool.or_assoc]
theorem S.gQ(p:aJ)(q:Prop')(hp:dW p)(hq:jw q):aj Tryz.prog 49 [.dat (.fQ p),.dat (.prop q)] (.int (jE p q)):=by
 have g1:=hp.states; have g5:=hp.initial;have q1:=hq.start; have q2:=hq.bad; have q3:=hq.adjacent; have q4:=hq.goal;refine aj.of Bd.gQ (by simp) rfl rfl ?_;refine ah.pure (S.pJ p hp) rfl ?_;refine⟨fun h1=>?_,fun h1=>?_⟩
 ·conv=>whnf
  exact ak.int (by rw[jE,h1]; rfl)
 refine ah.pure (S.jL q.name) rfl ?_;refine⟨fun h2=>?_,fun h2=>?_⟩
 ·conv=>whnf
  exact ak.int (by rw[jE,h1,h2]; rfl)
 repeat(refine VC.mk id ?_)
 refine⟨fun h3=>?_,fun h3=>?_⟩
 ·replace h3:(!(q.kind==1)&&q.kind !=2)=true:=h3;exact ak.int (by rw[jE,h1,h2,h3]; rfl)
 replace h3:(!(q.kind==1)&&q.kind !=2)=false:=h3;have k2:(q.kind==2)= !(q.kind==1):=by
  cases e:(q.kind==1) with
  |true=>rw[beq_iff_eq.1 e]; rfl
  |false=>rw[e] at h3; simpa using h3
 repeat(refine VC.mk (by first|exact id|(intro h; rw[h]; rfl)|(intro h; simp_all; done)) ?_)
 refine⟨fun h4=>?_,fun h4=>?_⟩
 ·rw[k2] at h4;exact ak.int (by rw[jE,h1,h2,h3,show vN q=true from h4]; rfl)
 rw[k2] at h4;replace h4:vN q=false:=h4;refine ah.pure (S.iY q.start p.states.length false (by omega) (by omega)) rfl ?_;refine⟨fun h6=>?_,fun h6=>?_⟩
 ·conv=>whnf
  exact ak.int (by rw[jE,h1,h2,h3,h4,h6]; rfl)
 refine aA.same [2,3,6] (fun i:Nat=>[(8,.int i)]) (fun i=>i<=q.start.length/\(q.start.take i).any (fun x=> !(Ji p.initial x))=false) (fun i=>q.start.length-i) 0 rfl (by decide) rfl (fun _=>rfl) ⟨by omega,by simp⟩ ⟨⟨_,rfl,rfl⟩,trivial⟩ ?_;refine⟨rfl,?_⟩;rintro i ⟨hi,hall⟩;refine⟨fun h7=>?_,fun h7=>?_⟩
 ·have hi':i<q.start.length:=by simpa using h7
  refine .mk (by simp only[Rw.rng] at *; omega) ?_;refine ah.pure (S.FB p.initial (q.start.getD i 0) false (by omega)) rfl ?_;refine⟨fun h8=>?_,fun h8=>?_⟩
  ·conv=>whnf
   exact ak.int (by rw[jE,h1,h2,h3,h4,h6,ig (d:=0) hi' h8]; rfl)
  ·conv=>whnf
   refine .mk (by simp only[okI] at *; omega) ?_;refine⟨i+1,⟨by omega,?_⟩,by omega,⟨⟨_,rfl,rfl⟩,trivial⟩,?_,rfl⟩
   ·rw[jS (d:=0) hi' hall]; exact h8
   ·repeat' (first|exact trivial|exact⟨_,rfl,rfl⟩|constructor)
 have hi':q.start.length<=i:=by simpa using h7
 rw[List.take_of_length_le hi'] at hall;clear h7 hi';refine⟨fun h8=>?_,fun h8=>?_⟩
 ·have h8':(!(q.kind==1))=true:=by rw[<- k2]; exact h8
  have hS:jE p q=bC [iW q.goal p.states.length,dM ((q.goal.length:Int)==0) 1]:=by rw[jE,h1,h2,h3,h4,h6,hall,h8']; rfl
  rw[hS];refine ah.pure (S.iY q.goal p.states.length false (by omega) (by omega)) rfl ?_;refine⟨fun h9=>?_,fun h9=>?_⟩
  ·conv=>whnf
   exact ak.int (fN (nz h9))
  rw[show iW q.goal p.states.length=0 from Dn h9,f0];refine⟨fun h10=>?_,fun h10=>?_⟩
  ·conv=>whnf
   exact ak.int (by rw[h10]; rfl)
  ·conv=>whnf
   exact ak.int (by rw[h10]; rfl)
 have h8':(!(q.kind==1))=false:=by rw[<- k2]; exact h8
 have hS:jE p q=bC [dM (((q.bad.length:Int)==0)&&((q.adjacent.length:Int)==0)) 1,dM (decide ((q.bad.length:Int)>3)) 4,vM q.bad p.states.length,Jj p q.adjacent]:=by rw[jE,h1,h2,h3,h4,h6,hall,h8']; rfl
 rw[hS];repeat(refine VC.mk id ?_)
 refine⟨fun h9=>?_,fun h9=>?_⟩
 ·conv=>whnf
  exact ak.int (by rw[h9]; rfl)
 rw[h9,Wh];refine⟨fun h10=>?_,fun h10=>?_⟩
 ·conv=>whnf
  exact ak.int (by rw[show decide ((q.bad.length:Int)>3)=true from h10]; rfl)
 rw[show decide ((q.bad.length:Int)>3)=false from h10,Wh];refine aA.same [2,3,6] (fun i:Nat=>[(10,.int i)]) (fun i=>i<=q.bad.length/\vM q.bad p.states.length=bC ((q.bad.drop i).map (MW p.states.length))) (fun i=>q.bad.length-i) 0 rfl (by decide) rfl (fun _=>rfl) ⟨by omega,by simp[vM]⟩ ⟨⟨_,rfl,rfl⟩,trivial⟩ ?_;refine⟨rfl,?_⟩;rintro j ⟨hj,hcnt⟩;refine⟨fun h11=>?_,fun h11=>?_⟩
 ·have hj':j<q.bad.length:=by simpa using h11
  rw[bY default hj',List.map_cons] at hcnt;simp only[bC] at hcnt;have hc:=hq.cnt j;refine .mk (by simp only[Rw.rng] at *; omega) ?_;refine ah.pure (S.iY (q.bad.getD j default).states p.states.length false (by omega) (by omega)) rfl ?_;refine⟨fun h12=>?_,fun h12=>?_⟩
  ·conv=>whnf
   have e1:MW p.states.length (q.bad.getD j default)=iW (q.bad.getD j default).states p.states.length:=fN (nz h12);rw[e1,if_neg (nz h12)] at hcnt;exact ak.int (by rw[hcnt,fN (nz h12)])
  have ZQ:iW (q.bad.getD j default).states p.states.length=0:=Dn h12;have e1:MW p.states.length (q.bad.getD j default)=bC [dM (qG (q.bad.getD j default)) 1]:=by rw[MW,ZQ,f0]
  rw[e1,UD] at hcnt;repeat(refine VC.mk (by first|exact id|(intro h; (repeat' apply And.intro)<;>first|exact h|omega|(simp only[Rw.qH]; omega)|(simp only[Rw.rng]; omega))|(simp only[Rw.rng] at *; omega)) ?_)
  refine ah.fV (fun _=>S.aX (q.bad.getD j default).least 1 3) rfl ?_;repeat(refine VC.mk (by first|exact id|(intro h; rw[h]; rfl)) ?_)
  refine⟨fun h13=>?_,fun h13=>?_⟩
  ·replace h13:(((q.bad.getD j default).states.length:Int)==0|| !(iw (q.bad.getD j default).least 1 3))=true:=h13;rw[h13] at hcnt;exact ak.int (by rw[hcnt]; rfl)
  ·replace h13:(((q.bad.getD j default).states.length:Int)==0|| !(iw (q.bad.getD j default).least 1 3))=false:=h13;rw[h13] at hcnt;refine .mk (by simp only[okI] at *; omega) ?_;refine⟨j+1,⟨by omega,hcnt⟩,by omega,⟨⟨_,rfl,rfl⟩,trivial⟩,?_,rfl⟩;repeat' (first|exact trivial|exact⟨_,rfl,rfl⟩|constructor)
 have hj':q.bad.length<=j:=by simpa using h11
 rw[List.drop_eq_nil_of_le hj'] at hcnt;rw[hcnt,show bC (List.map (MW p.states.length) [])=0 from rfl,f0];repeat(refine VC.mk id ?_)
 refine⟨fun h12=>?_,fun h12=>?_⟩
 ·replace h12:(decide ((q.adjacent.length:Int)>0)&&(p.topology==1))=true:=h12;conv=>whnf
  rw[Bool.and_eq_true] at h12
  have:((q.adjacent.length:Int)==0)=false:=beq_eq_false_iff_ne.2 (by have:=of_decide_eq_true h12.1; omega)
  exact ak.int (by rw[Jj,this,h12.2]; rfl)
 replace h12:(decide ((q.adjacent.length:Int)>0)&&(p.topology==1))=false:=h12;repeat(refine VC.mk id ?_)
 refine⟨fun h13=>?_,fun h13=>?_⟩
 ·replace h13:((q.adjacent.length:Int) !=0&&(q.adjacent.length:Int) !=2)=true:=h13;conv=>whnf
  rw[Bool.and_eq_true] at h13;have e0:((q.adjacent.length:Int)==0)=false:=by simpa using h13.1
  have e1:(p.topology==1)=false:=by
   rw[Bool.and_eq_false_iff] at h12;rcases h12 with h12|h12
   ·have:=of_decide_eq_false h12
    have:(q.adjacent.length:Int)≠0:=by simpa using e0
    omega
   ·exact h12
  exact ak.int (by rw[Jj,e0,e1,h13.2]; rfl)
 replace h13:((q.adjacent.length:Int) !=0&&(q.adjacent.length:Int) !=2)=false:=h13;rw[acK h12 h13];refine aA.same [2,3,6] (fun i:Nat=>[(12,.int i)]) (fun i=>i<=q.adjacent.length/\(q.adjacent.take i).any (fun x=>pG x p.states.length)=false) (fun i=>q.adjacent.length-i) 0 rfl (by decide) rfl (fun _=>rfl) ⟨by omega,by simp⟩ ⟨⟨_,rfl,rfl⟩,trivial⟩ ?_;refine⟨rfl,?_⟩;rintro k ⟨hk,ae1⟩;refine⟨fun h14=>?_,fun h14=>?_⟩
 ·have hk':k<q.adjacent.length:=by simpa using h14
  repeat(refine VC.mk (by simp only[okI,Rw.rng] at *; omega) ?_)
  refine ah.pure (S.aX (q.adjacent.getD k 0) 0 (p.states.length-1)) rfl ?_;refine⟨fun h15=>?_,fun h15=>?_⟩
  ·replace h15:(!(iw (q.adjacent.getD k 0) 0 (p.states.length-1)))=true:=h15;rw[wP] at h15;exact ak.int (by rw[ig (d:=0) hk' h15]; rfl)
  ·replace h15:(!(iw (q.adjacent.getD k 0) 0 (p.states.length-1)))=false:=h15;rw[wP] at h15;refine .mk (by simp only[okI] at *; omega) ?_;refine⟨k+1,⟨by omega,?_⟩,by omega,⟨⟨_,rfl,rfl⟩,trivial⟩,?_,rfl⟩
   ·rw[jS (d:=0) hk' ae1]; exact h15
   ·repeat' (first|exact trivial|exact⟨_,rfl,rfl⟩|constructor)
 have hk':q.adjacent.length<=k:=by simpa using h14
 rw[List.take_of_length_le hk'] at ae1;exact ak.int (by rw[ae1]; rfl)
theorem ak.ZR{h:Hz}{j:Nat}{l:List Int}(q:h.get j=some (iV l)):ak (.row 0 false (.ints l)) (.own j) h:=⟨AL trivial q⟩
theorem ak.agq{h:Hz}{k k':Nat}{r:Rw}(e:r.len=0):ak (.row k false r) (.row k' true .nil) h:=⟨by
 have:r.aT=[]:=List.eq_nil_of_length_eq_zero (by rw[Rw.fB]; exact e)
 show T.sub (fun _=>True) h.ay (.sl k false r.aT) (.sl k' true [])
 rw[this]; simp[T.sub]⟩
theorem S.NC(l:List Int)(f:Bool)(hl:l.length<2^30):aj Tryz.prog 114 [.row 0 f (.ints l)] (.row 0 false (.ints l)):=by
 refine aj.of Bd.nV (by simp) rfl rfl ?_;refine ZT.mk (fun hz=>?_) ?_
 ·conv=>whnf
  refine Fork.mk (fun _=>?_) (fun q=>absurd (q.symm.trans ((rfl:true=true))) Bool.false_ne_true);exact ak.agq hz
 ·conv=>whnf
  refine Fork.mk (fun q=>absurd (q.symm.trans ((rfl:false=false))).symm Bool.false_ne_true) (fun _=>?_);refine .mk (by simp only[jl,jF,Rw.len]; omega) ?_;repeat(refine VC.mk (by simp only[jl,jF,Rw.len]; omega) ?_)
  exact ak.ZR rfl
theorem S.pK(l:List Int)(f:Bool)(hl:l.length<2^30):aj Tryz.prog 83 [.row 0 f (.ints l)] (.row 0 false (.ints l)):=by
 refine aj.of Bd.pK (by simp) rfl rfl ?_;refine .mk (by simp only[jl,jF,Rw.len]; omega) ?_;exact ak.ZR rfl
def nX(p:aJ)(q:Prop'):List Int:=bif decide ((q.start.length:Int)>0) then q.start else p.initial
def dI(p:aJ)(q:Prop'):Int:=bif jE p q !=0 then jE p q else dM (!(iq p).cover||q.kind !=1) 7
theorem J6{p:aJ}{q:Prop'}(h:jE p q=0):bD p=0:=by
 unfold jE at h;obtain⟨h1,_⟩:=bz nz h;exact Dn h1
theorem ND{p:aJ}{q:Prop'}(h:jE p q=0):dI p q=dM (!(bif bD p !=0 then J7 else iq p).cover||q.kind !=1) 7:=by
 have h2:=J6 h;rw[dI,show(jE p q !=0)=false by simp[h],show(bD p !=0)=false by simp[h2]]; rfl
theorem S.oP(p:aJ)(q:Prop')(hp:dW p)(hq:jw q):aj Tryz.prog 41 [.dat (.fQ p),.dat (.prop q)] (.int (dI p q)):=by
 refine aj.of Bd.oP (by simp) rfl rfl ?_;refine ah.pure (S.eH p q hp hq) rfl ?_;refine⟨fun h1=>?_,fun h1=>?_⟩
 ·conv=>whnf
  exact ak.int (by rw[dI,h1]; rfl)
 rw[ND (Dn h1)];refine ah.pure (S.jm p hp) rfl ?_;repeat(refine VC.mk (by first|exact id|(intro h; rw[h]; rfl)) ?_)
 refine⟨fun h2=>?_,fun h2=>?_⟩
 ·conv=>whnf
  exact ak.int (by rw[h2]; rfl)
 ·conv=>whnf
  exact ak.int (by rw[h2]; rfl)
theorem S.vW(p:aJ)(q:Prop')(hp:dW p)(hq:jw q):aj Tryz.prog 42 [.dat (.fQ p),.dat (.prop q)] (.int (dI p q)):=by
 refine aj.of Bd.vW (by simp) rfl rfl ?_;refine ah.pure (S.gQ p q hp hq) rfl ?_;refine⟨fun h1=>?_,fun h1=>?_⟩
 ·conv=>whnf
  exact ak.int (by rw[dI,h1]; rfl)
 rw[ND (Dn h1)];refine ah.pure (S.pO p hp) rfl ?_;repeat(refine VC.mk (by first|exact id|(intro h; rw[h]; rfl)) ?_)
 refine⟨fun h2=>?_,fun h2=>?_⟩
 ·conv=>whnf
  exact ak.int (by rw[h2]; rfl)
 ·conv=>whnf
  exact ak.int (by rw[h2]; rfl)
theorem S.nG(p:aJ)(q:Prop')(hp:dW p)(hq:jw q)(hv:jE p q=0):aj Tryz.prog 72 [.dat (.fQ p),.dat (.prop q)] (.eX [.row 0 false (.ints (nX p q)),.int 0]):=by
 have g5:=hp.initial; have q1:=hq.start;refine aj.of Bd.nG (by simp) rfl rfl ?_;refine ah.pure (S.eH p q hp hq) rfl ?_;refine Fork.mk (fun q=>absurd (q.symm.trans ((by simp[hv]))).symm Bool.false_ne_true) (fun _=>?_);refine⟨fun h2=>?_,fun h2=>?_⟩
 ·conv=>whnf
  refine ah.pure (S.NC q.start false q1) rfl ?_;exact ak.eqv (by rw[nX,show decide ((q.start.length:Int)>0)=true from h2]; rfl)
 ·conv=>whnf
  refine ah.pure (S.NC p.initial false g5) rfl ?_;exact ak.eqv (by rw[nX,show decide ((q.start.length:Int)>0)=false from h2]; rfl)
theorem S.nH(p:aJ)(q:Prop')(hp:dW p)(hq:jw q):aj Tryz.prog 50 [.dat (.fQ p),.dat (.prop q)] (.row 0 false (.ints (nX p q))):=by
 have g5:=hp.initial; have q1:=hq.start;refine aj.of Bd.nH (by simp) rfl rfl ?_;refine⟨fun h2=>?_,fun h2=>?_⟩
 ·conv=>whnf
  refine ah.pure (S.pK q.start false q1) rfl ?_;exact ak.eqv (by rw[nX,show decide ((q.start.length:Int)>0)=true from h2]; rfl)
 ·conv=>whnf
  refine ah.pure (S.pK p.initial false g5) rfl ?_;exact ak.eqv (by rw[nX,show decide ((q.start.length:Int)>0)=false from h2]; rfl)
theorem S.wQ(p:aJ)(q:Prop')(hp:dW p)(hq:jw q)(hv:jE p q=0):aj Tryz.prog 19 [.dat (.fQ p),.dat (.prop q)] (.eX [.row 0 false (.ints (nX p q)),.int 0]):=by
 refine aj.of Bd.wQ (by simp) rfl rfl ?_;refine ah.pure (S.gQ p q hp hq) rfl ?_;refine Fork.mk (fun q=>absurd (q.symm.trans ((by simp[hv]))).symm Bool.false_ne_true) (fun _=>?_);refine ah.pure (S.nH p q hp hq) rfl ?_;exact ak.eqv rfl
def wR(p:aJ)(q:Prop')(e:Elem):Bool:= !(ZM e.counts (nX p q))&&(e.value==0)
theorem NG{p:aJ}{q:Prop'}(hp:dW p)(hq:jw q):(nX p q).length<2^30:=by
 unfold nX;cases decide ((q.start.length:Int)>0)
 ·exact hp.initial
 ·exact hq.start
theorem S.nS(p:aJ)(q:Prop')(e:Elem)(hp:dW p)(hq:jw q)(he:e.counts.length<2^30)(hv:jE p q=0):aj Tryz.prog 45 [.dat (.fQ p),.dat (.prop q),.dat (.elem e)] (.bool (wR p q e)):=by
 have hst:=NG hp hq;refine aj.of Bd.nS (by simp) rfl rfl ?_;refine ah.pure (S.nG p q hp hq hv) rfl ?_;refine aA.same [5,7,18,19] (fun i:Nat=>[(20,.int i)]) (fun i=>i<=e.counts.length/\(List.range i).any (fun i=>decide (e.counts.getD i 0>0)&& !(Ji (nX p q) i))=false) (fun i=>e.counts.length-i) 0 rfl (by decide) rfl (fun _=>rfl) ⟨by omega,by simp⟩ ⟨⟨_,rfl,rfl⟩,trivial⟩ ?_;refine⟨rfl,?_⟩;rintro i ⟨hi,hall⟩;refine⟨fun h3=>?_,fun h3=>?_⟩
 ·have hi':i<e.counts.length:=by simpa using h3
  repeat(refine VC.mk (by first|exact fun h=>⟨h,h⟩|(simp only[Rw.rng] at *; omega)) ?_)
  refine ah.fV (fun _=>S.slices_Contains_int (nX p q) i false (by omega)) rfl ?_;repeat(refine VC.mk id ?_)
  refine⟨fun h4=>?_,fun h4=>?_⟩
  ·conv=>whnf
   have:ZM e.counts (nX p q)=true:=yY.2 ⟨i,hi',h4⟩
   exact ak.bool (by rw[wR,this]; rfl)
  ·conv=>whnf
   refine .mk (by simp only[okI] at *; omega) ?_;refine⟨i+1,⟨by omega,?_⟩,by omega,⟨⟨_,rfl,rfl⟩,trivial⟩,?_,rfl⟩
   ·rw[List.range_succ,List.any_append,hall];simp only[List.any_cons,List.any_nil,Bool.or_false,Bool.false_or]; exact h4
   ·repeat' (first|exact trivial|exact⟨_,rfl,rfl⟩|constructor)
 ·have hi':e.counts.length<=i:=by simpa using h3
  have ei:i=e.counts.length:=Nat.le_antisymm hi hi';subst ei;exact ak.bool (by rw[wR,show ZM e.counts (nX p q)=false from hall]; rfl)
theorem S.uD(p:aJ)(q:Prop')(e:Elem)(hp:dW p)(hq:jw q)(he:e.counts.length<2^30)(hv:jE p q=0):aj Tryz.prog 47 [.dat (.fQ p),.dat (.prop q),.dat (.elem e)] (.bool (wR p q e)):=by
 have hst:=NG hp hq;refine aj.of Bd.uD (by simp) rfl rfl ?_;refine ah.pure (S.wQ p q hp hq hv) rfl ?_;refine aA.same [5,7] (fun i:Nat=>[(9,.int i)]) (fun i=>i<=e.counts.length/\(List.range i).any (fun i=>decide (e.counts.getD i 0>0)&& !(Ji (nX p q) i))=false) (fun i=>e.counts.length-i) 0 rfl (by decide) rfl (fun _=>rfl) ⟨by omega,by simp⟩ ⟨⟨_,rfl,rfl⟩,trivial⟩ ?_;refine⟨rfl,?_⟩;rintro i ⟨hi,hall⟩;refine⟨fun h3=>?_,fun h3=>?_⟩
 ·have hi':i<e.counts.length:=by simpa using h3
  repeat(refine VC.mk (by first|exact fun h=>⟨h,h⟩|(simp only[Rw.rng] at *; omega)) ?_)
  refine ah.fV (fun _=>S.JZ (nX p q) i false (by omega)) rfl ?_;repeat(refine VC.mk id ?_)
  refine⟨fun h4=>?_,fun h4=>?_⟩
  ·conv=>whnf
   have:ZM e.counts (nX p q)=true:=yY.2 ⟨i,hi',h4⟩
   exact ak.bool (by rw[wR,this]; rfl)
  ·conv=>whnf
   refine .mk (by simp only[okI] at *; omega) ?_;refine⟨i+1,⟨by omega,?_⟩,by omega,⟨⟨_,rfl,rfl⟩,trivial⟩,?_,rfl⟩
   ·rw[List.range_succ,List.any_append,hall];simp only[List.any_cons,List.any_nil,Bool.or_false,Bool.false_or]; exact h4
   ·repeat' (first|exact trivial|exact⟨_,rfl,rfl⟩|constructor)
 ·have hi':e.counts.length<=i:=by simpa using h3
  have ei:i=e.counts.length:=Nat.le_antisymm hi hi';subst ei;exact ak.bool (by rw[wR,show ZM e.counts (nX p q)=false from hall]; rfl)
theorem zS{p:aJ}{q:Prop'}(h:dI p q=0):jE p q=0:=by
 unfold dI at h;obtain⟨h1,_⟩:=bz nz h;exact Dn h1
end Go.Proofs.YtkmldgihhaooaaaGreatDoor
