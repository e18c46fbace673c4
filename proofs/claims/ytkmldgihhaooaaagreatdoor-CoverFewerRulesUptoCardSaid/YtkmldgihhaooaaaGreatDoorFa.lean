/-
 A part of the proof. No condition.
-/
import Derived.Test.YtkmldgihhaooaaaGreatDoorRb
import Derived.Test.YtkmldgihhaooaaaGreatDoorLg
import Derived.Test.YtkmldgihhaooaaaGreatDoorKa
namespace Go.Proofs.YtkmldgihhaooaaaGreatDoor
open Go.Ab Go.Proofs
set_option maxRecDepth 100000
def Eo(s:Int):List Int->Nat->Int
 |[],_=> -1
 |x::r,i=>bif s==x then(i:Int) else Eo s r (i+1)
theorem Yr{s:Int}{l:List Int}:decide (0<=Eo s l 0)=l.any fun x=>s==x:=by
 have: ∀ {l:List Int} {i:Nat},0<=Eo s l i↔(l.any fun x=>s==x)=true:=by
  intro l
  induction l with
  |nil=>intro i; simp[Eo]
  |cons x r ih =>
   intro i
   rw[List.any_cons,Bool.or_eq_true,<- ih (i:=i+1)]
   show(0:Int)<=(bif s==x then(i:Int) else Eo s r (i+1))↔_
   generalize (s==x)=b
   cases b<;>simp
 rw[Bool.eq_iff_iff,decide_eq_true_eq]; exact this
theorem S.slices_Index_int(l:List Int)(s:Int)(f:Bool)(hl:l.length<2^40):aj Tryz.prog 115 [.row 0 f (.ints l),.int s] (.int (Eo s l 0)):=by
 refine aj.of Bd.mX (by simp) rfl rfl ?_
 conv=>whnf
 refine aH.same [0,1,6,7] (fun i:Nat=>[(8,.int i)]) (fun i=>i<=l.length/\Eo s l 0=Eo s (l.drop i) i) (fun i=>l.length-i) 0 rfl (by decide) rfl (fun _=>rfl) ⟨by omega,by simp⟩ ⟨⟨_,rfl,rfl⟩,trivial⟩ ?_
 conv=>whnf
 refine⟨rfl,?_⟩
 rintro i ⟨hi,hall⟩
 conv=>whnf
 refine⟨fun h3=>?_,fun h3=>?_⟩
 ·have hi':i<l.length:=by simpa using h3
  rw[cZ 0 hi'] at hall
  simp only[Eo] at hall
  conv=>whnf
  refine .mk (by simp only[Rw.rng] at *; first|omega|(simp_all; done)|(simp_all; omega)) ?_
  conv=>whnf
  refine⟨fun h4=>?_,fun h4=>?_⟩
  ·conv=>whnf
   refine ak.int ?_
   have h4':(s==l.getD i 0)=true:=h4
   rw[hall,h4']; rfl
  ·conv=>whnf
   refine .mk (by simp only[okI] at *; first|omega|(simp_all; done)|(simp_all; omega)) ?_
   conv=>whnf
   refine⟨i+1,⟨by omega,?_⟩,by omega,⟨⟨_,rfl,rfl⟩,trivial⟩,?_,rfl⟩
   ·have h4':(s==l.getD i 0)=false:=h4
    rw[hall,h4']; rfl
   ·repeat' (first|exact trivial|exact⟨_,rfl,rfl⟩|constructor)
 ·conv=>whnf
  refine ak.int ?_
  have hi':l.length<=i:=by simpa using h3
  rw[hall,List.drop_eq_nil_of_le hi']; rfl
def FV(l:List Int)(s:Int):Bool:=l.any fun x=>s==x
theorem S.slices_Contains_int(l:List Int)(s:Int)(f:Bool)(hl:l.length<2^40):aj Tryz.prog 73 [.row 0 f (.ints l),.int s] (.bool (FV l s)):=by
 refine aj.of Bd.kT (by simp) rfl rfl ?_
 conv=>whnf
 refine ah.pure (S.slices_Index_int l s f hl) rfl ?_
 conv=>whnf
 exact ak.bool Yr.symm
def y5(n:Nat)(l:List Int):Prop:= ∀ q∈l,0<=q/\q<n
def Yi(c l:List Int):Bool:=(List.range c.length).any fun i=>decide (c.getD i 0>0)&& !(FV l i)
def Du(ex c:List Int)(i:Nat):Bool:=((ex.length:Int)==0)||(List.range i).any fun j=> !(c.getD j 0==0)&&FV ex j
def FW(al c:List Int)(i:Nat):Bool:=(List.range i).any fun j=> !(c.getD j 0==0)&&(decide ((al.length:Int)>0)&& !(FV al j))
def y7(r:Rule)(c:List Int):Bool:= !(FW r.all c c.length)&&Du r.ex c c.length
theorem I4{ex c:List Int}{i:Nat}:Du ex c (i+1)=(Du ex c i||(!(c.getD i 0==0)&&FV ex i)):=by
 simp only[Du,List.range_succ,List.any_append,List.any_cons,List.any_nil,Bool.or_false,Bool.or_assoc]
theorem I5{al c:List Int}{i:Nat}:FW al c (i+1)=(FW al c i||(!(c.getD i 0==0)&&(decide ((al.length:Int)>0)&& !(FV al i)))):=by
 simp only[FW,List.range_succ,List.any_append,List.any_cons,List.any_nil,Bool.or_false]
theorem Yt{al c:List Int}{i:Nat}(hi:i<c.length)(h0:(c.getD i 0==0)=false)(h:(decide ((al.length:Int)>0)&& !(FV al i))=true):FW al c c.length=true :=
 Bo.2 ⟨i,hi,by rw[h0,h]; rfl⟩
theorem S.mQ(r:Rule)(c:List Int)(f:Bool)(hr:sJ r)(hc:c.length<2^40):aj Tryz.prog 106 [.dat (.rule r),.row 0 f (.ints c)] (.bool (y7 r c)):=by
 have g1:=hr.ex; have g2:=hr.all
 refine aj.of Bd.mQ (by simp) rfl rfl ?_
 conv=>whnf
 refine aH.same [2,12,13] (fun i:Nat=>[(14,.int i),(5,.bool (Du r.ex c i))]) (fun i=>i<=c.length/\FW r.all c i=false) (fun i=>c.length-i) 0 rfl (by decide) rfl (fun _=>rfl) ⟨by omega,rfl⟩ ⟨⟨_,rfl,rfl⟩,⟨_,rfl,?_⟩,trivial⟩ ?_
 ·show(V.bool (Du r.ex c 0)).aG=(V.bool ((r.ex.length:Int)==0)).aG
  rw[Du]; simp
 conv=>whnf
 refine⟨rfl,?_⟩
 rintro i ⟨hi,hall⟩
 conv=>whnf
 refine⟨fun h3=>?_,fun h3=>?_⟩
 ·have hi':i<c.length:=by simpa using h3
  conv=>whnf
  refine .mk (by simp only[Rw.rng] at *; first|omega|(simp_all; done)|(simp_all; omega)) ?_
  conv=>whnf
  refine⟨fun h4=>?_,fun h4=>?_⟩
  ·replace h4:(c.getD i 0==0)=true:=h4
   conv=>whnf
   refine .mk (by simp only[okI] at *; first|omega|(simp_all; done)|(simp_all; omega)) ?_
   conv=>whnf
   refine⟨i+1,⟨by omega,by rw[I5,hall,h4]; rfl⟩,by omega,⟨⟨_,rfl,rfl⟩,⟨_,rfl,?_⟩,trivial⟩,?_,rfl⟩
   ·rw[I4,h4]; simp[V.aG]
   ·repeat' (first|exact trivial|exact⟨_,rfl,rfl⟩|constructor)
  ·replace h4:(c.getD i 0==0)=false:=h4
   conv=>whnf
   repeat(refine VC.mk (by first|exact id|exact fun h=>⟨h,h⟩) ?_; conv=>whnf)
   refine ah.fM (fun _=>S.slices_Contains_int r.ex i false (by omega)) rfl ?_
   conv=>whnf
   repeat(refine VC.mk (by first|exact id|exact fun h=>⟨h,h⟩|(intro h; rw[h]; rfl)) ?_; conv=>whnf)
   refine ah.fM (fun _=>S.slices_Contains_int r.all i false (by omega)) rfl ?_
   conv=>whnf
   repeat(refine VC.mk id ?_; conv=>whnf)
   refine⟨fun h5=>?_,fun h5=>?_⟩
   ·conv=>whnf
    exact ak.bool (by rw[y7,Yt hi' h4 h5]; rfl)
   ·conv=>whnf
    refine .mk (by simp only[okI] at *; first|omega|(simp_all; done)|(simp_all; omega)) ?_
    conv=>whnf
    refine⟨i+1,⟨by omega,by rw[I5,hall,h4]; simpa using h5⟩,by omega,⟨⟨_,rfl,rfl⟩,⟨_,rfl,?_⟩,trivial⟩,?_,rfl⟩
    ·rw[I4,h4]; simp[V.aG,rW]
    ·repeat' (first|exact trivial|exact⟨_,rfl,rfl⟩|constructor)
 ·have hi':c.length<=i:=by simpa using h3
  have e:i=c.length:=Nat.le_antisymm hi hi'
  subst e
  conv=>whnf
  exact ak.bool (by rw[y7,hall]; rfl)
structure I7(n:Nat)(r:Rule):Prop where
 src:0<=r.fr/\r.fr<n
 dst:0<=r.to/\r.to<n
 afy:0<=r.jE/\r.jE<n
 afz:0<=r.zX/\r.zX<n
 rsp:r.kind=3->r.response.length=n/\y5 n r.response
 exs:y5 n r.ex
def SV(c:List Int):Prop:= ∀ x∈c,0<=x/\x<=1048576
def dI(c:List Int)(i d:Int):List Int:=c.set i.toNat (c.getD i.toNat 0+d)
theorem I8{h:Hz}{j:Nat}{Z:Nat->Prop}{l:List Int}(hz:Z j)(q:h.get j=some (.row 3 0 (.ints l) [])):T.sub Z h.au (V.row 0 false (.ints l)).aG (V.own j).aG:=by
 show T.sub Z h.au (.sl 0 false (l.map T.int)) (.own j)
 simp only[T.sub]
 refine⟨trivial,hz,?_,by decide,3,?_⟩
 ·rw[gK]; intro t ht; obtain⟨x,_,rfl⟩:=List.mem_map.1 ht; rfl
 ·have:=aP q
  rw[this]; simp[OV.aA,Rw.aV,V.aV]
theorem PL{n:Nat}(h:0<n):(bif isZero (.int n) then some Rw.nil else aaS (n:Int).toNat (T.int 0))=some (.ints (List.replicate n 0)):=by
 cases n with
 |zero=>omega
 |succ k=>rfl
abbrev nP(l:List Int):OV:=.row 3 0 (.ints l) []
end Go.Proofs.YtkmldgihhaooaaaGreatDoor
namespace Go.Proofs.YtkmldgihhaooaaaGreatDoor
open Go.Ab Go.Proofs
set_option maxRecDepth 100000
theorem aaT{l:List Int}{s:Int}:FV l s=true↔s∈l:=by
 simp only[FV,List.any_eq_true,beq_iff_eq]
 constructor
 ·rintro⟨x,h,rfl⟩; exact h
 ·intro h; exact⟨s,h,rfl⟩
theorem okH{ρ:Nat->Nat}{nx pn c n:Nat}{h:Hz}{s:List Nat}{o:OV}(a:(Nat.blt c nx&&(!(Nat.blt c pn)||Nat.beq n c)&&o8 n s&&(o.good nx&&o.Ef))=true)(b:(h.get n).map OV.aA=some o.aA):Nat.blt c nx=true/\(Nat.blt c pn=true->n=c)/\o8 n s=true/\o.good nx=true /\
   ∃ o',h.get n=some o'/\o'.aA.ty=o.aA.ty/\o'.aA.k=o.aA.k/\aQ (T.bT ρ o.aA.l) o'.aA.l:=by
 simp only[Bool.and_eq_true,Bool.or_eq_true,Bool.not_eq_true'] at a
 obtain⟨⟨⟨a1,a2⟩,a3⟩,a4,a5⟩:=a
 obtain⟨o',b1,b2⟩:=Option.map_eq_some_iff.1 b
 exact⟨a1,fun h=>a2.elim (fun q=>by rw[q] at h; cases h) fB,a3,a4,o',b1,by rw[b2],by rw[b2],by rw[OV.dU a5,b2]; exact .refl _⟩
theorem okJ{ρ:Nat->Nat}{nx pn c n:Nat}{h:Hz}{s:List Nat}{o o':OV}(a:(Nat.blt c nx&&(!(Nat.blt c pn)||Nat.beq n c)&&o8 n s)=true)(g:o.good nx=true)(b:h.get n=some o')(t:o'.aA.ty=o.aA.ty/\o'.aA.k=o.aA.k)(l:aQ (T.bT ρ o.aA.l) o'.aA.l):Nat.blt c nx=true/\(Nat.blt c pn=true->n=c)/\o8 n s=true/\o.good nx=true /\
   ∃ o',h.get n=some o'/\o'.aA.ty=o.aA.ty/\o'.aA.k=o.aA.k/\aQ (T.bT ρ o.aA.l) o'.aA.l:=by
 simp only[Bool.and_eq_true,Bool.or_eq_true,Bool.not_eq_true'] at a
 obtain⟨⟨a1,a2⟩,a3⟩:=a
 exact⟨a1,fun h=>a2.elim (fun q=>by rw[q] at h; cases h) fB,a3,g,o',b,t.1,t.2,l⟩
theorem okF{ρ:Nat->Nat}{nx pn c n:Nat}{h:Hz}{s:List Nat}{o o':OV}(q1:Nat.blt c nx=true)(q2:Nat.blt c pn=true->n=c)(q3:o8 n s=true)(q4:(o.good nx&&o.Ef)=true)(q5:h.get n=some o')
  (q6:o'.aA.ty=o.aA.ty/\o'.aA.k=o.aA.k) (q7:o.aA.l=o'.aA.l):Nat.blt c nx=true/\(Nat.blt c pn=true->n=c)/\o8 n s=true/\o.good nx=true /\
   ∃ o',h.get n=some o'/\o'.aA.ty=o.aA.ty/\o'.aA.k=o.aA.k/\aQ (T.bT ρ o.aA.l) o'.aA.l:=by
 rw[Bool.and_eq_true] at q4
 exact⟨q1,q2,q3,q4.1,o',q5,q6.1,q6.2,aQ.of_eq ((OV.dU q4.2 ρ).trans q7)⟩
theorem bz{c:Bool}{a b:Int}(ha:c=true->a≠0)(h:(bif c then a else b)=0):c=false/\b=0:=by
 cases c with
 |true=>exact absurd h (ha rfl)
 |false=>exact⟨rfl,h⟩
theorem nz{a:Int}(h:(a !=0)=true):a≠0:=by simpa using h
theorem jl: ∀ {l:List Int},aX l=0-> ∀ x∈l,x=0:=by
 intro l
 induction l with
 |nil=>intro _ x h; cases h
 |cons a r ih =>
  intro h x hx
  simp only[aX] at h
  split at h
  ·rename_i h0
   rcases List.mem_cons.1 hx with rfl|hx
   ·exact h0
   ·exact ih h x hx
  ·rename_i h0; exact absurd h h0
structure NS(p:aI):Prop where
 pos:0<p.states.length
 states:p.states.length<=6
 values:p.values.length<=3
 acY:p.rules.length<=8
 init:fV p.initial p.states.length=0
 start:p.initial≠[]
 rule: ∀ i,i<p.rules.length->fO p i=0
theorem Dl{p:aI}(h:bF p=0):NS p:=by
 unfold bF at h
 obtain⟨_,h⟩:=bz (fun _=>by decide) h
 obtain⟨_,h⟩:=bz (fun _=>by decide) h
 obtain⟨h0,h⟩:=bz (fun _=>by decide) h
 obtain⟨h1,h⟩:=bz (fun _=>by decide) h
 obtain⟨_,h⟩:=bz nz h
 obtain⟨_,h⟩:=bz (fun _=>by decide) h
 obtain⟨_,h⟩:=bz (fun _=>by decide) h
 obtain⟨h2,h⟩:=bz nz h
 obtain⟨h3,h⟩:=bz nz h
 have h2':vW p=0:=by simpa using h2
 have h3':vU p=0:=by simpa using h3
 have g:=jl h2'
 simp only[qR,Bool.or_eq_false_iff,decide_eq_false_iff_not] at h1
 refine⟨?_,by omega,by omega,by omega,g _ (by simp),?_,fun i hi=>?_⟩
 ·have:(p.states.length:Int)≠0:=by simpa using h0
  omega
 ·intro e
  have:=g (dB ((p.initial.length:Int)==0) 1) (by simp)
  rw[e] at this; exact absurd this (by decide)
 ·exact jl h3' _ (List.mem_map.2 ⟨i,by simpa using hi,rfl⟩)
theorem uS{x:Int}{n:Nat}(h:oI x n=false):0<=x/\x<n:=by
 simp only[oI,Bool.or_eq_false_iff,decide_eq_false_iff_not] at h; omega
theorem yZ{x:Int}{n:Nat}(h:bH x n=0):0<=x/\x<n:=by
 refine uS ?_
 unfold bH dB at h
 cases hb:oI x n with
 |false=>rfl
 |true=>rw[hb] at h; exact absurd h (by decide)
theorem FX{l:List Int}{n:Nat}(h:fV l n=0):y5 n l:=by
 unfold fV at h
 obtain⟨h,_⟩:=bz (fun _=>by decide) h
 rw[List.any_eq_false] at h
 exact fun q hq=>uS (by simpa using h q hq)
theorem PN{n:Nat}: ∀ {l:List Int},pV l n=0->y5 n l:=by
 intro l
 induction l with
 |nil=>intro _ q h; cases h
 |cons x r ih =>
  intro h q hq
  simp only[pV] at h
  split at h
  ·rename_i h0
   rcases List.mem_cons.1 hq with rfl|hq
   ·exact yZ h0
   ·exact ih h q hq
  ·rename_i h0; exact absurd h h0
theorem LQ{k:Int}(h:rX k 1=true):k=1\/k=2\/k=3:=by
 unfold rX at h
 cases h1:(k==1) with
 |true=>exact .inl (beq_iff_eq.1 h1)
 |false =>
  cases h2:(k==2) with
  |true=>exact .inr (.inl (beq_iff_eq.1 h2))
  |false =>
   cases h3:(k==3) with
   |true=>exact .inr (.inr (beq_iff_eq.1 h3))
   |false=>rw[h1,h2,h3] at h; cases hb:(k==4||k==5)<;>rw[hb] at h<;>cases h
structure Yu(n:Nat)(p:aI)(r:Rule):Prop where
 place:I7 n r
 kind:r.kind=1\/r.kind=2\/r.kind=3
 agi:y5 n r.all
 ex1:r.kind≠1->r.ex=[]/\r.all=[]
 rd:oI r.read p.values.length=false\/r.read= -1
 wr:oI r.write p.values.length=false\/r.write= -1
theorem sK{p:aI}{v:Int}(h:gY p v=0):oI v p.values.length=false\/v= -1:=by
 unfold gY dB at h
 have h': ¬ (v< -1\/v>=(p.values.length:Int)):=by
  intro q
  have:(decide (v< -1)||decide (v>=(p.values.length:Int)))=true:=by simpa using q
  rw[this] at h; exact absurd h (by decide)
 by_cases e:v= -1
 ·exact .inr e
 ·left
  simp only[oI,Bool.or_eq_false_iff,decide_eq_false_iff_not]; omega
theorem aes{p:aI}{i:Nat}(hv:NS p)(ht:p.topology=1)(hi:i<p.rules.length):Yu p.states.length p (p.rules.getD i default):=by
 have h:=hv.rule i hi
 have hpos:=hv.pos
 simp only[fO,qU] at h
 generalize (p.rules.getD i default)=r at h ⊢
 obtain⟨_,h⟩:=bz (fun _=>by decide) h
 obtain⟨hb,h⟩:=bz (fun _=>by decide) h
 obtain⟨he,h⟩:=bz nz h
 rw[Ij,Bool.or_eq_false_iff] at he
 rw[ht,Bool.or_eq_false_iff] at hb
 have hk:=LQ (show rX r.kind 1=true by simpa using hb.1)
 have hu:kN r 1=false:=by rw[vT (by omega)]; exact hb.2
 have hun:=LV hu
 have hpf:r.kind≠2->r.kind≠5->r.jE=0/\r.zX=0:=by
  intro k1 k2
  simp only[kN,NK,Bool.or_eq_false_iff] at hu
  have h3:=hu.2.2.1
  simp only[beq_eq_false_iff_ne.2 k1,beq_eq_false_iff_ne.2 k2,Bool.not_false,Bool.true_and,Bool.or_eq_false_iff] at h3
  exact⟨SX h3.1,SX h3.2⟩
 have h00:(0:Int)<=0/\(0:Int)<p.states.length:=⟨by omega,by omega⟩
 have pn:y5 p.states.length []:=fun q hq=>by cases hq
 rcases hk with e|e|e
 ·rw[e] at h
  have g:=jl h
  have⟨a,b⟩:=hpf (by omega) (by omega)
  exact⟨⟨uS he.1,uS he.2,by rw[a]; exact h00,by rw[b]; exact h00,fun q=>by omega,FX (g (fV r.ex p.states.length) (by simp))⟩,.inl e,FX (g (fV r.all p.states.length) (by simp)),fun q=>absurd e q,sK (g (gY p r.read) (by simp)),sK (g (gY p r.write) (by simp))⟩
 ·rw[e] at h
  have g:=jl h
  obtain⟨_,u1,u2,_⟩:=hun.1 (by omega)
  exact⟨⟨uS he.1,uS he.2,yZ (g (bH r.jE p.states.length) (by simp)),yZ (g (bH r.zX p.states.length) (by simp)),fun q=>by omega,by rw[u1]; exact pn⟩,.inr (.inl e),by rw[u2]; exact pn,fun _=>⟨u1,u2⟩,sK (g (gY p r.read) (by simp)),sK (g (gY p r.write) (by simp))⟩
 ·rw[e] at h
  have g:=jl h
  have⟨a,b⟩:=hpf (by omega) (by omega)
  obtain⟨_,u1,u2,_⟩:=hun.1 (by omega)
  have hr:=g (CJ r.response p.states.length) (by simp)
  unfold CJ at hr
  obtain⟨r1,r2⟩:=bz (fun _=>by decide) hr
  exact⟨⟨uS he.1,uS he.2,by rw[a]; exact h00,by rw[b]; exact h00,fun _=>⟨by have q9:(r.response.length:Int)=p.states.length:=(by simpa using r1); omega,PN r2⟩,by rw[u1]; exact pn⟩,.inr (.inr e),by rw[u2]; exact pn,fun _=>⟨u1,u2⟩,sK (g (gY p r.read) (by simp)),sK (g (gY p r.write) (by simp))⟩
theorem LU{p:aI}(h:uI p=true):p.topology=1:=by
 simp only[uI,Bool.and_eq_true,beq_iff_eq] at h; exact h.1.1.1
structure Ej(p:aI)(e:Elem):Prop where
 valid:NS p
 plain:uI p=true
 len:e.counts.length=p.states.length
 nums:SV e.counts
 val:0<=e.value/\e.value<max 1 (p.values.length:Int)
theorem Wi{p:aI}(h:Wj p=0):bF p=0/\uI p=true:=by
 unfold Wj at h
 obtain⟨h1,h⟩:=bz nz h
 obtain⟨h2,_⟩:=bz (fun _=>by decide) h
 refine⟨by simpa using h1,?_⟩
 simp only[jA] at h2
 cases hp:uI p with
 |true=>rfl
 |false=>rw[hp] at h2; simp at h2
theorem FY{b:Bool}{n:Int}(h:dB b n=0)(hn:n≠0):b=false:=by
 cases b with
 |false=>rfl
 |true=>exact absurd h hn
theorem UY{x:Int}:BZ x=true↔0<=x/\x<=1048576:=by simp[BZ]
theorem acZ{p:aI}{e:Elem}(h:qL p e=false):e.counts.length=p.states.length/\SV e.counts/\0<=e.value/\e.value<max 1 (p.values.length:Int):=by
 simp only[qL,Bool.or_eq_false_iff,decide_eq_false_iff_not] at h
 obtain⟨⟨⟨h1,h2⟩,h3⟩,h4⟩:=h
 refine⟨?_,fun x hx=>?_,by omega,by omega⟩
 ·have:(e.counts.length:Int)=p.states.length:=by simpa using h1
  omega
 ·have:e.counts.all BZ=true:=by simpa using h2
  exact UY.1 (List.all_eq_true.1 this x hx)
theorem afA{p:aI}{e:Elem}(h:UZ p e=0):Ej p e:=by
 unfold UZ at h
 obtain⟨h1,h⟩:=bz nz h
 obtain⟨h2,h3⟩:=Wi (by simpa using h1)
 obtain⟨a,b,c⟩:=acZ (FY h (by decide))
 exact⟨Dl h2,h3,a,b,c⟩
theorem LW{c:List Int}{i d:Int}:(dI c i d).length=c.length:=by simp[dI]
end Go.Proofs.YtkmldgihhaooaaaGreatDoor
namespace Go.Proofs.YtkmldgihhaooaaaGreatDoor
open Go.Ab Go.Proofs
set_option maxRecDepth 100000
theorem ah.tidy{h:Hz}{i n:Nat}{l:List Elem}{K:V->Hz->Prop}{KW:Nat->V->Hz->Prop}(hi:h.get i=some (dG l))(hn:h.get n=none)(hl:l.length<2^30)(hs:fC l)
  (h1:K (.own i) ((i,some (dG (xB l)))::h)) (h2: ∀ m,K (.oV i 0 (xB l).length) ((i,some (.row 35 3 (.elems (xB l)) (List.replicate m zeroV)))::h)):ah Tryz.prog false none 64 [.own i] h n K KW:=by
 refine ah.Yv (ts:=[.own 0]) (S.sN l 1 hl hs) rfl rfl rfl rfl hi hn ?_
 rintro t hp (⟨rfl,rfl⟩|⟨m,rfl,rfl⟩)
 ·exact .inl ⟨.own i,dG (xB l),rfl,rfl,rfl,h1⟩
 ·exact .inl ⟨.oV i 0 _,.row 35 3 (.elems (xB l)) (List.replicate m zeroV),rfl,Ep _ _,rfl,h2 m⟩
theorem ak.CO{h:Hz}{k:Nat}{c:Int}:ak (.dH [.row 3 false (.elems []),.int c]) (.dH [.row k true .nil,.int c]) h:=⟨by
 show T.sub (fun _=>True) h.au (.dH [.sl 3 false [],.int c]) (.dH [.sl k true [],.int c])
 simp[T.sub,T.dN]⟩
end Go.Proofs.YtkmldgihhaooaaaGreatDoor
namespace Go.Proofs.YtkmldgihhaooaaaGreatDoor
open Go.Ab Go.Proofs
set_option maxRecDepth 100000
theorem PO{a b:List Int}(h:o9 a b=true)(i:Nat):a.getD i 0<=b.getD i 0:=by
 obtain⟨h1,h2⟩:=qV.1 h
 by_cases hi:i<a.length
 ·exact h2 i hi
 ·rw[show a.getD i 0=0 by simp[List.getD_eq_getElem?_getD,List.getElem?_eq_none (by omega:a.length<=i)],show b.getD i 0=0 by simp[List.getD_eq_getElem?_getD,List.getElem?_eq_none (by omega:b.length<=i)]]
  exact Int.le_refl _
theorem FZ{c:List Int}{i d:Int}{j:Nat}:(dI c i d).getD j 0=if j=i.toNat/\j<c.length then c.getD j 0+d else c.getD j 0:=by
 unfold dI
 rw[List.getD_eq_getElem?_getD,List.getElem?_set]
 by_cases h:i.toNat=j
 ·subst h
  by_cases h2:i.toNat<c.length
  ·simp[h2]
  ·simp[h2]
 ·rw[if_neg h,if_neg (fun q=>h q.1.symm),List.getD_eq_getElem?_getD]
theorem SY{p:aI}{e:Elem}(h1:bF p=0)(h2:(jA p).cover=true)(h3:qL p e=false):UZ p e=0:=by
 have:Wj p=0:=by
  unfold Wj
  rw[show(bF p !=0)=false by simp[h1],h2]; rfl
 rw[UZ,this,h3]; rfl
structure jK(q:Prop'):Prop where
 start:q.start.length<2^30
 bad:q.bad.length<2^30
 adjacent:q.adjacent.length<2^30
 goal:q.goal.length<2^30
 cnt: ∀ i,(q.bad.getD i default).states.length<2^30
def pq(c:Cnt):Bool:=((c.states.length:Int)==0||decide (c.least<1))||decide (c.least>3)
def KY(n:Int)(c:Cnt):Int:=aX [fV c.states n,dB (pq c) 1]
def uT(l:List Cnt)(n:Int):Int:=aX (l.map (KY n))
def Ic(p:aI)(l:List Int):Int:=bif (l.length:Int)==0 then 0 else bif p.topology==1 then 6 else bif (l.length:Int) !=2 then 1 else aX [bH (l.getD 0 0) p.states.length,bH (l.getD 1 0) p.states.length]
def qQ(q:Prop'):Bool:=((q.kind==1)&&decide ((q.goal.length:Int)>0))||(!(q.kind==1)&&(decide ((q.bad.length:Int)>0)||decide ((q.adjacent.length:Int)>0)))
def fF(p:aI)(q:Prop'):Int :=
 let n:Int:=p.states.length
 bif bF p !=0 then bF p else bif !(validName q.name) then 2 else bif !(q.kind==1)&&q.kind !=2 then 1 else bif qQ q then 1 else
 bif fV q.start n !=0 then fV q.start n else bif q.start.any (fun x=> !(FV p.initial x)) then 5 else
 bif !(q.kind==1) then aX [fV q.goal n,dB ((q.goal.length:Int)==0) 1] else
 aX [dB (((q.bad.length:Int)==0)&&((q.adjacent.length:Int)==0)) 1,dB (decide ((q.bad.length:Int)>3)) 4,uT q.bad n,Ic p q.adjacent]
theorem S.mF(l:List Cnt)(n:Int)(f:Bool)(hl:l.length<2^30)(hs: ∀ i,(l.getD i default).states.length<2^30):aj Tryz.prog 112 [.row 3 f (.cnts l),.int n] (.int (uT l n)):=by
 refine aj.of Bd.mF (by simp) rfl rfl ?_
 conv=>whnf
 refine aH.same [1,8,9] (fun i:Nat=>[(10,.int i)]) (fun i=>i<=l.length/\uT l n=aX ((l.drop i).map (KY n))) (fun i=>l.length-i) 0 rfl (by decide) rfl (fun _=>rfl) ⟨by omega,by simp[uT]⟩ ⟨⟨_,rfl,rfl⟩,trivial⟩ ?_
 conv=>whnf
 refine⟨rfl,?_⟩
 rintro i ⟨hi,hall⟩
 conv=>whnf
 refine⟨fun h3=>?_,fun h3=>?_⟩
 ·have hi':i<l.length:=by simpa using h3
  rw[cZ default hi',List.map_cons] at hall
  simp only[aX] at hall
  have hc:=hs i
  conv=>whnf
  refine .mk (by simp only[Rw.rng] at *; omega) ?_
  conv=>whnf
  refine ah.pure (S.dY (l.getD i default).states n false (by omega)) rfl ?_
  conv=>whnf
  repeat(refine VC.mk (by first|exact id|(intro h; rw[h]; rfl)) ?_; conv=>whnf)
  refine ah.pure (S.bV (pq (l.getD i default)) 1) rfl ?_
  conv=>whnf
  refine ah.pure (S.bM [fV (l.getD i default).states n,dB (pq (l.getD i default)) 1] true (show 2<2^40 by decide)) rfl ?_
  conv=>whnf
  refine⟨fun h4=>?_,fun h4=>?_⟩
  ·conv=>whnf
   refine ak.int ?_
   have h4':KY n (l.getD i default)≠0:=nz h4
   rw[hall,if_neg h4']; rfl
  ·conv=>whnf
   refine .mk (by simp only[okI] at *; omega) ?_
   conv=>whnf
   have h4':KY n (l.getD i default)=0:=Ce h4
   rw[if_pos h4'] at hall
   refine⟨i+1,⟨by omega,hall⟩,by omega,⟨⟨_,rfl,rfl⟩,trivial⟩,?_,rfl⟩
   repeat' (first|exact trivial|exact⟨_,rfl,rfl⟩|constructor)
 ·have hi':l.length<=i:=by simpa using h3
  rw[List.drop_eq_nil_of_le hi'] at hall
  conv=>whnf
  exact ak.int (by rw[hall]; rfl)
theorem S.kP(p:aI)(l:List Int)(f:Bool)(_hl:l.length<2^30):aj Tryz.prog 113 [.dat (.iF p),.row 0 f (.ints l)] (.int (Ic p l)):=by
 refine aj.of Bd.kP (by simp) rfl rfl ?_
 conv=>whnf
 refine⟨fun h1=>?_,fun h1=>?_⟩
 ·conv=>whnf
  exact ak.int (by rw[Ic,h1]; rfl)
 conv=>whnf
 refine⟨fun h2=>?_,fun h2=>?_⟩
 ·conv=>whnf
  exact ak.int (by rw[Ic,h1,h2]; rfl)
 conv=>whnf
 refine⟨fun h3=>?_,fun h3=>?_⟩
 ·conv=>whnf
  exact ak.int (by rw[Ic,h1,h2,h3]; rfl)
 have h4:l.length=2:=by
  have:(l.length:Int)=2:=by simpa using h3
  omega
 conv=>whnf
 repeat(refine VC.mk (by simp only[Rw.rng] at *; omega) ?_; conv=>whnf)
 refine ah.pure (S.bY (l.getD 0 0) p.states.length) rfl ?_
 conv=>whnf
 refine ah.pure (S.bY (l.getD 1 0) p.states.length) rfl ?_
 conv=>whnf
 refine ah.pure (S.bM [bH (l.getD 0 0) p.states.length,bH (l.getD 1 0) p.states.length] true (show 2<2^40 by decide)) rfl ?_
 conv=>whnf
 exact ak.int (by rw[Ic,h1,h2,h3]; rfl)
theorem S.dX(p:aI)(q:Prop')(hp:fA p)(hq:jK q):aj Tryz.prog 68 [.dat (.iF p),.dat (.prop q)] (.int (fF p q)):=by
 have g1:=hp.states; have g5:=hp.initial
 have q1:=hq.start; have q2:=hq.bad; have q3:=hq.adjacent; have q4:=hq.goal
 refine aj.of Bd.dX (by simp) rfl rfl ?_
 conv=>whnf
 refine ah.pure (S.jd p hp) rfl ?_
 conv=>whnf
 refine⟨fun h1=>?_,fun h1=>?_⟩
 ·conv=>whnf
  exact ak.int (by rw[fF,h1]; rfl)
 conv=>whnf
 refine ah.pure (S.gJ q.name) rfl ?_
 conv=>whnf
 refine⟨fun h2=>?_,fun h2=>?_⟩
 ·conv=>whnf
  exact ak.int (by rw[fF,h1,h2]; rfl)
 conv=>whnf
 repeat(refine VC.mk id ?_; conv=>whnf)
 refine⟨fun h3=>?_,fun h3=>?_⟩
 ·conv=>whnf
  exact ak.int (by rw[fF,h1,h2,h3]; rfl)
 conv=>whnf
 repeat(refine VC.mk id ?_; conv=>whnf)
 refine⟨fun h4=>?_,fun h4=>?_⟩
 ·conv=>whnf
  refine Fork.mk (fun _=>?_) (fun q=>absurd (q.symm.trans (h4)) Bool.false_ne_true)
  conv=>whnf
  exact ak.int (by rw[fF,h1,h2,h3,show qQ q=true by rw[qQ]; erw [h4]; rfl]; rfl)
 conv=>whnf
 repeat(refine VC.mk (by first|exact id|(intro h; simp_all; done)) ?_; conv=>whnf)
 refine⟨fun h5=>?_,fun h5=>?_⟩
 ·conv=>whnf
  exact ak.int (by rw[fF,h1,h2,h3,show qQ q=true by rw[qQ]; erw [h5]; simp]; rfl)
 have h45:qQ q=false:=by rw[qQ]; erw [h4,h5]; rfl
 conv=>whnf
 refine ah.pure (S.dY q.start p.states.length false (by omega)) rfl ?_
 conv=>whnf
 refine⟨fun h6=>?_,fun h6=>?_⟩
 ·conv=>whnf
  exact ak.int (by rw[fF,h1,h2,h3,h45,h6]; rfl)
 conv=>whnf
 refine aH.same [2,3,6,7,65,66] (fun i:Nat=>[(67,.int i)]) (fun i=>i<=q.start.length/\(q.start.take i).any (fun x=> !(FV p.initial x))=false) (fun i=>q.start.length-i) 0 rfl (by decide) rfl (fun _=>rfl) ⟨by omega,by simp⟩ ⟨⟨_,rfl,rfl⟩,trivial⟩ ?_
 conv=>whnf
 refine⟨rfl,?_⟩
 rintro i ⟨hi,hall⟩
 conv=>whnf
 refine⟨fun h7=>?_,fun h7=>?_⟩
 ·have hi':i<q.start.length:=by simpa using h7
  conv=>whnf
  refine .mk (by simp only[Rw.rng] at *; omega) ?_
  conv=>whnf
  refine ah.pure (S.slices_Contains_int p.initial (q.start.getD i 0) false (by omega)) rfl ?_
  conv=>whnf
  refine⟨fun h8=>?_,fun h8=>?_⟩
  ·conv=>whnf
   exact ak.int (by rw[fF,h1,h2,h3,h45,h6,jm (d:=0) hi' h8]; rfl)
  ·conv=>whnf
   refine .mk (by simp only[okI] at *; omega) ?_
   conv=>whnf
   refine⟨i+1,⟨by omega,?_⟩,by omega,⟨⟨_,rfl,rfl⟩,trivial⟩,?_,rfl⟩
   ·rw[lg (d:=0) hi' hall]; exact h8
   ·repeat' (first|exact trivial|exact⟨_,rfl,rfl⟩|constructor)
 have hi':q.start.length<=i:=by simpa using h7
 rw[List.take_of_length_le hi'] at hall
 conv=>whnf
 refine⟨fun h8=>?_,fun h8=>?_⟩
 ·conv=>whnf
  refine ah.pure (S.dY q.goal p.states.length false (by omega)) rfl ?_
  conv=>whnf
  refine ah.pure (S.bV ((q.goal.length:Int)==0) 1) rfl ?_
  conv=>whnf
  refine ah.pure (S.bM [fV q.goal p.states.length,dB ((q.goal.length:Int)==0) 1] true (show 2<2^40 by decide)) rfl ?_
  conv=>whnf
  exact ak.int (by rw[fF,h1,h2,h3,h45,h6,hall,h8]; rfl)
 conv=>whnf
 repeat(refine VC.mk id ?_; conv=>whnf)
 refine ah.pure (S.bV (((q.bad.length:Int)==0)&&((q.adjacent.length:Int)==0)) 1) rfl ?_
 conv=>whnf
 refine ah.pure (S.bV (decide ((q.bad.length:Int)>3)) 4) rfl ?_
 conv=>whnf
 refine ah.pure (S.mF q.bad p.states.length false q2 hq.cnt) rfl ?_
 conv=>whnf
 refine ah.pure (S.kP p q.adjacent false q3) rfl ?_
 conv=>whnf
 refine ah.pure (S.bM [dB (((q.bad.length:Int)==0)&&((q.adjacent.length:Int)==0)) 1,dB (decide ((q.bad.length:Int)>3)) 4,uT q.bad p.states.length,Ic p q.adjacent] true (show 4<2^40 by decide)) rfl ?_
 conv=>whnf
 exact ak.int (by rw[fF,h1,h2,h3,h45,h6,hall,h8]; rfl)
theorem S.Es(l:List Int)(s:Int)(f:Bool)(hl:l.length<2^40):aj Tryz.prog 81 [.row 0 f (.ints l),.int s] (.bool (FV l s)):=by
 refine aj.of Bd.Es (by simp) rfl rfl ?_
 conv=>whnf
 refine aH.same [0,1] (fun i:Nat=>[(5,.int i)]) (fun i=>i<=l.length/\(l.take i).any (fun x=>s==x)=false) (fun i=>l.length-i) 0 rfl (by decide) rfl (fun _=>rfl) ⟨by omega,by simp⟩ ⟨⟨_,rfl,rfl⟩,trivial⟩ ?_
 conv=>whnf
 refine⟨rfl,?_⟩
 rintro i ⟨hi,hall⟩
 conv=>whnf
 refine⟨fun h3=>?_,fun h3=>?_⟩
 ·have hi':i<l.length:=by simpa using h3
  conv=>whnf
  refine .mk (by simp only[Rw.rng] at *; omega) ?_
  conv=>whnf
  refine⟨fun h4=>?_,fun h4=>?_⟩
  ·have h4':(s==l.getD i 0)=true:=by rw[show(s==l.getD i 0)=(l.getD i 0==s) from Bool.beq_comm]; exact h4
   conv=>whnf
   exact ak.bool (jm (d:=0) hi' h4')
  ·have h4':(s==l.getD i 0)=false:=by rw[show(s==l.getD i 0)=(l.getD i 0==s) from Bool.beq_comm]; exact h4
   conv=>whnf
   refine .mk (by simp only[okI] at *; omega) ?_
   conv=>whnf
   refine⟨i+1,⟨by omega,?_⟩,by omega,⟨⟨_,rfl,rfl⟩,trivial⟩,?_,rfl⟩
   ·rw[lg (d:=0) hi' hall]; exact h4'
   ·repeat' (first|exact trivial|exact⟨_,rfl,rfl⟩|constructor)
 ·have hi':l.length<=i:=by simpa using h3
  rw[List.take_of_length_le hi'] at hall
  conv=>whnf
  exact ak.bool hall
theorem aaU{p:aI}{l:List Int}(h1:(decide ((l.length:Int)>0)&&(p.topology==1))=false)(h2:((l.length:Int) !=0&&(l.length:Int) !=2)=false):Ic p l=bif l.any (fun x=>oI x p.states.length) then 5 else 0:=by
 unfold Ic
 rcases l with _|⟨a,_|⟨b,_|⟨c,r⟩⟩⟩
 ·rfl
 ·simp at h2
 ·have ht:(p.topology==1)=false:=by simpa using h1
  rw[ht]
  simp only[List.length_cons,List.length_nil,List.getD_cons_zero,List.getD_cons_succ,List.any_cons,List.any_nil,Bool.or_false,bH]
  cases oI a p.states.length<;>cases oI b p.states.length<;>rfl
 ·simp at h2; omega
theorem S9{c:Cnt}:pq c=((c.states.length:Int)==0|| !(ig c.least 1 3)):=by
 rw[pq,oJ,Bool.or_assoc]
theorem S.iY(p:aI)(q:Prop')(hp:fA p)(hq:jK q):aj Tryz.prog 49 [.dat (.iF p),.dat (.prop q)] (.int (fF p q)):=by
 have g1:=hp.states; have g5:=hp.initial
 have q1:=hq.start; have q2:=hq.bad; have q3:=hq.adjacent; have q4:=hq.goal
 refine aj.of Bd.iY (by simp) rfl rfl ?_
 conv=>whnf
 refine ah.pure (S.qW p hp) rfl ?_
 conv=>whnf
 refine⟨fun h1=>?_,fun h1=>?_⟩
 ·conv=>whnf
  exact ak.int (by rw[fF,h1]; rfl)
 conv=>whnf
 refine ah.pure (S.jF q.name) rfl ?_
 conv=>whnf
 refine⟨fun h2=>?_,fun h2=>?_⟩
 ·conv=>whnf
  exact ak.int (by rw[fF,h1,h2]; rfl)
 conv=>whnf
 repeat(refine VC.mk id ?_; conv=>whnf)
 refine⟨fun h3=>?_,fun h3=>?_⟩
 ·replace h3:(!(q.kind==1)&&q.kind !=2)=true:=h3
  conv=>whnf
  exact ak.int (by rw[fF,h1,h2,h3]; rfl)
 replace h3:(!(q.kind==1)&&q.kind !=2)=false:=h3
 have k2:(q.kind==2)= !(q.kind==1):=by
  cases e:(q.kind==1) with
  |true=>rw[beq_iff_eq.1 e]; rfl
  |false=>rw[e] at h3; simpa using h3
 conv=>whnf
 repeat(refine VC.mk (by first|exact id|(intro h; rw[h]; rfl)|(intro h; simp_all; done)) ?_; conv=>whnf)
 refine⟨fun h4=>?_,fun h4=>?_⟩
 ·rw[k2] at h4
  conv=>whnf
  exact ak.int (by rw[fF,h1,h2,h3,show qQ q=true from h4]; rfl)
 rw[k2] at h4
 replace h4:qQ q=false:=h4
 conv=>whnf
 refine ah.pure (S.iR q.start p.states.length false (by omega) (by omega)) rfl ?_
 conv=>whnf
 refine⟨fun h6=>?_,fun h6=>?_⟩
 ·conv=>whnf
  exact ak.int (by rw[fF,h1,h2,h3,h4,h6]; rfl)
 conv=>whnf
 refine aH.same [2,3,6] (fun i:Nat=>[(8,.int i)]) (fun i=>i<=q.start.length/\(q.start.take i).any (fun x=> !(FV p.initial x))=false) (fun i=>q.start.length-i) 0 rfl (by decide) rfl (fun _=>rfl) ⟨by omega,by simp⟩ ⟨⟨_,rfl,rfl⟩,trivial⟩ ?_
 conv=>whnf
 refine⟨rfl,?_⟩
 rintro i ⟨hi,hall⟩
 conv=>whnf
 refine⟨fun h7=>?_,fun h7=>?_⟩
 ·have hi':i<q.start.length:=by simpa using h7
  conv=>whnf
  refine .mk (by simp only[Rw.rng] at *; omega) ?_
  conv=>whnf
  refine ah.pure (S.Es p.initial (q.start.getD i 0) false (by omega)) rfl ?_
  conv=>whnf
  refine⟨fun h8=>?_,fun h8=>?_⟩
  ·conv=>whnf
   exact ak.int (by rw[fF,h1,h2,h3,h4,h6,jm (d:=0) hi' h8]; rfl)
  ·conv=>whnf
   refine .mk (by simp only[okI] at *; omega) ?_
   conv=>whnf
   refine⟨i+1,⟨by omega,?_⟩,by omega,⟨⟨_,rfl,rfl⟩,trivial⟩,?_,rfl⟩
   ·rw[lg (d:=0) hi' hall]; exact h8
   ·repeat' (first|exact trivial|exact⟨_,rfl,rfl⟩|constructor)
 have hi':q.start.length<=i:=by simpa using h7
 rw[List.take_of_length_le hi'] at hall
 clear h7 hi'
 conv=>whnf
 refine⟨fun h8=>?_,fun h8=>?_⟩
 ·have h8':(!(q.kind==1))=true:=by rw[<- k2]; exact h8
  have hS:fF p q=aX [fV q.goal p.states.length,dB ((q.goal.length:Int)==0) 1]:=by rw[fF,h1,h2,h3,h4,h6,hall,h8']; rfl
  rw[hS]
  conv=>whnf
  refine ah.pure (S.iR q.goal p.states.length false (by omega) (by omega)) rfl ?_
  conv=>whnf
  refine⟨fun h9=>?_,fun h9=>?_⟩
  ·conv=>whnf
   exact ak.int (fN (nz h9))
  rw[show fV q.goal p.states.length=0 from Ce h9,f0]
  conv=>whnf
  refine⟨fun h10=>?_,fun h10=>?_⟩
  ·conv=>whnf
   exact ak.int (by rw[h10]; rfl)
  ·conv=>whnf
   exact ak.int (by rw[h10]; rfl)
 have h8':(!(q.kind==1))=false:=by rw[<- k2]; exact h8
 have hS:fF p q=aX [dB (((q.bad.length:Int)==0)&&((q.adjacent.length:Int)==0)) 1,dB (decide ((q.bad.length:Int)>3)) 4,uT q.bad p.states.length,Ic p q.adjacent]:=by rw[fF,h1,h2,h3,h4,h6,hall,h8']; rfl
 rw[hS]
 conv=>whnf
 repeat(refine VC.mk id ?_; conv=>whnf)
 refine⟨fun h9=>?_,fun h9=>?_⟩
 ·conv=>whnf
  exact ak.int (by rw[h9]; rfl)
 rw[h9,U0]
 conv=>whnf
 refine⟨fun h10=>?_,fun h10=>?_⟩
 ·conv=>whnf
  exact ak.int (by rw[show decide ((q.bad.length:Int)>3)=true from h10]; rfl)
 rw[show decide ((q.bad.length:Int)>3)=false from h10,U0]
 conv=>whnf
 refine aH.same [2,3,6] (fun i:Nat=>[(10,.int i)]) (fun i=>i<=q.bad.length/\uT q.bad p.states.length=aX ((q.bad.drop i).map (KY p.states.length))) (fun i=>q.bad.length-i) 0 rfl (by decide) rfl (fun _=>rfl) ⟨by omega,by simp[uT]⟩ ⟨⟨_,rfl,rfl⟩,trivial⟩ ?_
 conv=>whnf
 refine⟨rfl,?_⟩
 rintro j ⟨hj,hcnt⟩
 conv=>whnf
 refine⟨fun h11=>?_,fun h11=>?_⟩
 ·have hj':j<q.bad.length:=by simpa using h11
  rw[cZ default hj',List.map_cons] at hcnt
  simp only[aX] at hcnt
  have hc:=hq.cnt j
  conv=>whnf
  refine .mk (by simp only[Rw.rng] at *; omega) ?_
  conv=>whnf
  refine ah.pure (S.iR (q.bad.getD j default).states p.states.length false (by omega) (by omega)) rfl ?_
  conv=>whnf
  refine⟨fun h12=>?_,fun h12=>?_⟩
  ·conv=>whnf
   have e1:KY p.states.length (q.bad.getD j default)=fV (q.bad.getD j default).states p.states.length:=fN (nz h12)
   rw[e1,if_neg (nz h12)] at hcnt
   exact ak.int (by rw[hcnt,fN (nz h12)])
  have Yw:fV (q.bad.getD j default).states p.states.length=0:=Ce h12
  have e1:KY p.states.length (q.bad.getD j default)=aX [dB (pq (q.bad.getD j default)) 1]:=by rw[KY,Yw,f0]
  rw[e1,S9] at hcnt
  conv=>whnf
  repeat(refine VC.mk (by first|exact id|(intro h; (repeat' apply And.intro)<;>first|exact h|omega|(simp only[Rw.rV]; omega)|(simp only[Rw.rng]; omega))|(simp only[Rw.rng] at *; omega)) ?_; conv=>whnf)
  refine ah.fM (fun _=>S.aY (q.bad.getD j default).least 1 3) rfl ?_
  conv=>whnf
  repeat(refine VC.mk (by first|exact id|(intro h; rw[h]; rfl)) ?_; conv=>whnf)
  refine⟨fun h13=>?_,fun h13=>?_⟩
  ·replace h13:(((q.bad.getD j default).states.length:Int)==0|| !(ig (q.bad.getD j default).least 1 3))=true:=h13
   rw[h13] at hcnt
   conv=>whnf
   exact ak.int (by rw[hcnt]; rfl)
  ·replace h13:(((q.bad.getD j default).states.length:Int)==0|| !(ig (q.bad.getD j default).least 1 3))=false:=h13
   rw[h13] at hcnt
   conv=>whnf
   refine .mk (by simp only[okI] at *; omega) ?_
   conv=>whnf
   refine⟨j+1,⟨by omega,hcnt⟩,by omega,⟨⟨_,rfl,rfl⟩,trivial⟩,?_,rfl⟩
   repeat' (first|exact trivial|exact⟨_,rfl,rfl⟩|constructor)
 have hj':q.bad.length<=j:=by simpa using h11
 rw[List.drop_eq_nil_of_le hj'] at hcnt
 rw[hcnt,show aX (List.map (KY p.states.length) [])=0 from rfl,f0]
 conv=>whnf
 repeat(refine VC.mk id ?_; conv=>whnf)
 refine⟨fun h12=>?_,fun h12=>?_⟩
 ·replace h12:(decide ((q.adjacent.length:Int)>0)&&(p.topology==1))=true:=h12
  conv=>whnf
  rw[Bool.and_eq_true] at h12
  have:((q.adjacent.length:Int)==0)=false:=beq_eq_false_iff_ne.2 (by have:=of_decide_eq_true h12.1; omega)
  exact ak.int (by rw[Ic,this,h12.2]; rfl)
 replace h12:(decide ((q.adjacent.length:Int)>0)&&(p.topology==1))=false:=h12
 conv=>whnf
 repeat(refine VC.mk id ?_; conv=>whnf)
 refine⟨fun h13=>?_,fun h13=>?_⟩
 ·replace h13:((q.adjacent.length:Int) !=0&&(q.adjacent.length:Int) !=2)=true:=h13
  conv=>whnf
  rw[Bool.and_eq_true] at h13
  have e0:((q.adjacent.length:Int)==0)=false:=by simpa using h13.1
  have e1:(p.topology==1)=false:=by
   rw[Bool.and_eq_false_iff] at h12
   rcases h12 with h12|h12
   ·have:=of_decide_eq_false h12
    have:(q.adjacent.length:Int)≠0:=by simpa using e0
    omega
   ·exact h12
  exact ak.int (by rw[Ic,e0,e1,h13.2]; rfl)
 replace h13:((q.adjacent.length:Int) !=0&&(q.adjacent.length:Int) !=2)=false:=h13
 rw[aaU h12 h13]
 conv=>whnf
 refine aH.same [2,3,6] (fun i:Nat=>[(12,.int i)]) (fun i=>i<=q.adjacent.length/\(q.adjacent.take i).any (fun x=>oI x p.states.length)=false) (fun i=>q.adjacent.length-i) 0 rfl (by decide) rfl (fun _=>rfl) ⟨by omega,by simp⟩ ⟨⟨_,rfl,rfl⟩,trivial⟩ ?_
 conv=>whnf
 refine⟨rfl,?_⟩
 rintro k ⟨hk,ac0⟩
 conv=>whnf
 refine⟨fun h14=>?_,fun h14=>?_⟩
 ·have hk':k<q.adjacent.length:=by simpa using h14
  conv=>whnf
  repeat(refine VC.mk (by simp only[okI,Rw.rng] at *; omega) ?_; conv=>whnf)
  refine ah.pure (S.aY (q.adjacent.getD k 0) 0 (p.states.length-1)) rfl ?_
  conv=>whnf
  refine⟨fun h15=>?_,fun h15=>?_⟩
  ·replace h15:(!(ig (q.adjacent.getD k 0) 0 (p.states.length-1)))=true:=h15
   rw[vX] at h15
   conv=>whnf
   exact ak.int (by rw[jm (d:=0) hk' h15]; rfl)
  ·replace h15:(!(ig (q.adjacent.getD k 0) 0 (p.states.length-1)))=false:=h15
   rw[vX] at h15
   conv=>whnf
   refine .mk (by simp only[okI] at *; omega) ?_
   conv=>whnf
   refine⟨k+1,⟨by omega,?_⟩,by omega,⟨⟨_,rfl,rfl⟩,trivial⟩,?_,rfl⟩
   ·rw[lg (d:=0) hk' ac0]; exact h15
   ·repeat' (first|exact trivial|exact⟨_,rfl,rfl⟩|constructor)
 have hk':q.adjacent.length<=k:=by simpa using h14
 rw[List.take_of_length_le hk'] at ac0
 conv=>whnf
 exact ak.int (by rw[ac0]; rfl)
theorem ak.ac1{h:Hz}{j:Nat}{l:List Int}(q:h.get j=some (nP l)):ak (.row 0 false (.ints l)) (.own j) h:=⟨I8 trivial q⟩
theorem ak.afB{h:Hz}{k k':Nat}{r:Rw}(e:r.len=0):ak (.row k false r) (.row k' true .nil) h:=⟨by
 have:r.aV=[]:=List.eq_nil_of_length_eq_zero (by rw[Rw.dZ]; exact e)
 show T.sub (fun _=>True) h.au (.sl k false r.aV) (.sl k' true [])
 rw[this]; simp[T.sub]⟩
theorem S.LX(l:List Int)(f:Bool)(hl:l.length<2^30):aj Tryz.prog 114 [.row 0 f (.ints l)] (.row 0 false (.ints l)):=by
 refine aj.of Bd.mY (by simp) rfl rfl ?_
 conv=>whnf
 refine Yx.mk (fun hz=>?_) ?_
 ·conv=>whnf
  refine Fork.mk (fun _=>?_) (fun q=>absurd (q.symm.trans ((rfl:true=true))) Bool.false_ne_true)
  conv=>whnf
  exact ak.afB hz
 ·conv=>whnf
  refine Fork.mk (fun q=>absurd (q.symm.trans ((rfl:false=false))).symm Bool.false_ne_true) (fun _=>?_)
  conv=>whnf
  refine .mk (by simp only[nI,nU,Rw.len]; omega) ?_
  conv=>whnf
  repeat(refine VC.mk (by simp only[nI,nU,Rw.len]; omega) ?_; conv=>whnf)
  exact ak.ac1 rfl
theorem S.oK(l:List Int)(f:Bool)(hl:l.length<2^30):aj Tryz.prog 83 [.row 0 f (.ints l)] (.row 0 false (.ints l)):=by
 refine aj.of Bd.oK (by simp) rfl rfl ?_
 conv=>whnf
 refine .mk (by simp only[nI,nU,Rw.len]; omega) ?_
 conv=>whnf
 exact ak.ac1 rfl
def eF(p:aI)(q:Prop'):List Int:=bif decide ((q.start.length:Int)>0) then q.start else p.initial
def bK(p:aI)(q:Prop'):Int:=bif fF p q !=0 then fF p q else dB (!(jA p).cover||q.kind !=1) 7
theorem Dn{p:aI}{q:Prop'}(h:fF p q=0):bF p=0:=by
 unfold fF at h
 obtain⟨h1,_⟩:=bz nz h
 exact Ce h1
theorem Wn{p:aI}{q:Prop'}(h:fF p q=0):bK p q=dB (!(bif bF p !=0 then U3 else jA p).cover||q.kind !=1) 7:=by
 have h2:=Dn h
 rw[bK,show(fF p q !=0)=false by simp[h],show(bF p !=0)=false by simp[h2]]; rfl
theorem S.kQ(p:aI)(q:Prop')(hp:fA p)(hq:jK q):aj Tryz.prog 41 [.dat (.iF p),.dat (.prop q)] (.int (bK p q)):=by
 refine aj.of Bd.kQ (by simp) rfl rfl ?_
 conv=>whnf
 refine ah.pure (S.dX p q hp hq) rfl ?_
 conv=>whnf
 refine⟨fun h1=>?_,fun h1=>?_⟩
 ·conv=>whnf
  exact ak.int (by rw[bK,h1]; rfl)
 rw[Wn (Ce h1)]
 conv=>whnf
 refine ah.pure (S.je p hp) rfl ?_
 conv=>whnf
 repeat(refine VC.mk (by first|exact id|(intro h; rw[h]; rfl)) ?_; conv=>whnf)
 refine⟨fun h2=>?_,fun h2=>?_⟩
 ·conv=>whnf
  exact ak.int (by rw[h2]; rfl)
 ·conv=>whnf
  exact ak.int (by rw[h2]; rfl)
theorem S.mG(p:aI)(q:Prop')(hp:fA p)(hq:jK q)(hv:fF p q=0):aj Tryz.prog 72 [.dat (.iF p),.dat (.prop q)] (.dH [.row 0 false (.ints (eF p q)),.int 0]):=by
 have g5:=hp.initial; have q1:=hq.start
 refine aj.of Bd.mG (by simp) rfl rfl ?_
 conv=>whnf
 refine ah.pure (S.dX p q hp hq) rfl ?_
 conv=>whnf
 refine Fork.mk (fun q=>absurd (q.symm.trans ((by simp[hv]))).symm Bool.false_ne_true) (fun _=>?_)
 conv=>whnf
 refine⟨fun h2=>?_,fun h2=>?_⟩
 ·conv=>whnf
  refine ah.pure (S.LX q.start false q1) rfl ?_
  conv=>whnf
  exact ak.eqv (by rw[eF,show decide ((q.start.length:Int)>0)=true from h2]; rfl)
 ·conv=>whnf
  refine ah.pure (S.LX p.initial false g5) rfl ?_
  conv=>whnf
  exact ak.eqv (by rw[eF,show decide ((q.start.length:Int)>0)=false from h2]; rfl)
theorem S.mD(p:aI)(q:Prop')(hp:fA p)(hq:jK q):aj Tryz.prog 50 [.dat (.iF p),.dat (.prop q)] (.row 0 false (.ints (eF p q))):=by
 have g5:=hp.initial; have q1:=hq.start
 refine aj.of Bd.mD (by simp) rfl rfl ?_
 conv=>whnf
 refine⟨fun h2=>?_,fun h2=>?_⟩
 ·conv=>whnf
  refine ah.pure (S.oK q.start false q1) rfl ?_
  conv=>whnf
  exact ak.eqv (by rw[eF,show decide ((q.start.length:Int)>0)=true from h2]; rfl)
 ·conv=>whnf
  refine ah.pure (S.oK p.initial false g5) rfl ?_
  conv=>whnf
  exact ak.eqv (by rw[eF,show decide ((q.start.length:Int)>0)=false from h2]; rfl)
def oP(p:aI)(q:Prop')(e:Elem):Bool:= !(Yi e.counts (eF p q))&&(e.value==0)
theorem LM{p:aI}{q:Prop'}(hp:fA p)(hq:jK q):(eF p q).length<2^30:=by
 unfold eF
 cases decide ((q.start.length:Int)>0)
 ·exact hp.initial
 ·exact hq.start
theorem S.mV(p:aI)(q:Prop')(e:Elem)(hp:fA p)(hq:jK q)(he:e.counts.length<2^30)(hv:fF p q=0):aj Tryz.prog 45 [.dat (.iF p),.dat (.prop q),.dat (.elem e)] (.bool (oP p q e)):=by
 have hst:=LM hp hq
 refine aj.of Bd.mV (by simp) rfl rfl ?_
 conv=>whnf
 refine ah.pure (S.mG p q hp hq hv) rfl ?_
 conv=>whnf
 refine aH.same [5,7,18,19] (fun i:Nat=>[(20,.int i)]) (fun i=>i<=e.counts.length/\(List.range i).any (fun i=>decide (e.counts.getD i 0>0)&& !(FV (eF p q) i))=false) (fun i=>e.counts.length-i) 0 rfl (by decide) rfl (fun _=>rfl) ⟨by omega,by simp⟩ ⟨⟨_,rfl,rfl⟩,trivial⟩ ?_
 conv=>whnf
 refine⟨rfl,?_⟩
 rintro i ⟨hi,hall⟩
 conv=>whnf
 refine⟨fun h3=>?_,fun h3=>?_⟩
 ·have hi':i<e.counts.length:=by simpa using h3
  conv=>whnf
  repeat(refine VC.mk (by first|exact fun h=>⟨h,h⟩|(simp only[Rw.rng] at *; first|omega|(simp_all; done)|(simp_all; omega))) ?_; conv=>whnf)
  refine ah.fM (fun _=>S.slices_Contains_int (eF p q) i false (by omega)) rfl ?_
  conv=>whnf
  repeat(refine VC.mk id ?_; conv=>whnf)
  refine⟨fun h4=>?_,fun h4=>?_⟩
  ·conv=>whnf
   have:Yi e.counts (eF p q)=true:=Bo.2 ⟨i,hi',h4⟩
   exact ak.bool (by rw[oP,this]; rfl)
  ·conv=>whnf
   refine .mk (by simp only[okI] at *; first|omega|(simp_all; done)|(simp_all; omega)) ?_
   conv=>whnf
   refine⟨i+1,⟨by omega,?_⟩,by omega,⟨⟨_,rfl,rfl⟩,trivial⟩,?_,rfl⟩
   ·rw[List.range_succ,List.any_append,hall]
    simp only[List.any_cons,List.any_nil,Bool.or_false,Bool.false_or]; exact h4
   ·repeat' (first|exact trivial|exact⟨_,rfl,rfl⟩|constructor)
 ·have hi':e.counts.length<=i:=by simpa using h3
  have ei:i=e.counts.length:=Nat.le_antisymm hi hi'
  subst ei
  conv=>whnf
  exact ak.bool (by rw[oP,show Yi e.counts (eF p q)=false from hall]; rfl)
theorem vS{p:aI}{q:Prop'}(h:bK p q=0):fF p q=0:=by
 unfold bK at h
 obtain⟨h1,_⟩:=bz nz h
 exact Ce h1
end Go.Proofs.YtkmldgihhaooaaaGreatDoor
