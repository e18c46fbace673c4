/-
 A part of the proof. No condition.
-/
import Derived.Test.YtdhobgbagphngaaGreatDoorRb
import Derived.Test.YtdhobgbagphngaaGreatDoorLg
import Derived.Test.YtdhobgbagphngaaGreatDoorKa
namespace Go.Proofs.YtdhobgbagphngaaGreatDoor
open Go.Ab Go.Proofs
set_option maxRecDepth 100000
def EG(s:Int):List Int->Nat->Int
 |[],_=> -1
 |x::r,i=>bif s==x then(i:Int) else EG s r (i+1)
theorem YE{s:Int}{l:List Int}:decide (0<=EG s l 0)=l.any fun x=>s==x:=by
 have: ∀ {l:List Int} {i:Nat},0<=EG s l i↔(l.any fun x=>s==x)=true:=by
  intro l;induction l with
  |nil=>intro i; simp[EG]
  |cons x r ih =>
   intro i;rw[List.any_cons,Bool.or_eq_true,<- ih (i:=i+1)];show(0:Int)<=(bif s==x then(i:Int) else EG s r (i+1))↔_;generalize (s==x)=b;cases b<;>simp
 rw[Bool.eq_iff_iff,decide_eq_true_eq]; exact this
theorem S.slices_Index_int(l:List Int)(s:Int)(f:Bool)(hl:l.length<2^40):aj Tryz.prog 122 [.row 0 f (.ints l),.int s] (.int (EG s l 0)):=by
 refine aj.of Bd.nD (by simp) rfl rfl ?_;refine aC.same [0,1,6,7] (fun i:Nat=>[(8,.int i)]) (fun i=>i<=l.length/\EG s l 0=EG s (l.drop i) i) (fun i=>l.length-i) 0 rfl (by decide) rfl (fun _=>rfl) ⟨by omega,by simp⟩ ⟨⟨_,rfl,rfl⟩,trivial⟩ ?_;refine⟨rfl,?_⟩;rintro i ⟨hi,hall⟩;refine⟨fun h3=>?_,fun h3=>?_⟩
 ·have hi':i<l.length:=by simpa using h3
  rw[dA 0 hi'] at hall;simp only[EG] at hall;refine .mk (by simp only[Rw.rng] at *; omega) ?_;refine⟨fun h4=>?_,fun h4=>?_⟩
  ·conv=>whnf
   refine ak.int ?_;have h4':(s==l.getD i 0)=true:=h4;rw[hall,h4']; rfl
  ·conv=>whnf
   refine .mk (by simp only[okI] at *; omega) ?_;refine⟨i+1,⟨by omega,?_⟩,by omega,⟨⟨_,rfl,rfl⟩,trivial⟩,?_,rfl⟩
   ·have h4':(s==l.getD i 0)=false:=h4;rw[hall,h4']; rfl
   ·repeat' (first|exact trivial|exact⟨_,rfl,rfl⟩|constructor)
 ·conv=>whnf
  refine ak.int ?_;have hi':l.length<=i:=by simpa using h3
  rw[hall,List.drop_eq_nil_of_le hi']; rfl
def PZ(l:List Int)(s:Int):Bool:=l.any fun x=>s==x
theorem S.slices_Contains_int(l:List Int)(s:Int)(f:Bool)(hl:l.length<2^40):aj Tryz.prog 90 [.row 0 f (.ints l),.int s] (.bool (PZ l s)):=by
 refine aj.of Bd.kN (by simp) rfl rfl ?_;refine ah.pure (S.slices_Index_int l s f hl) rfl ?_;exact ak.bool YE.symm
def zG(n:Nat)(l:List Int):Prop:= ∀ q∈l,0<=q/\q<n
def adD(c l:List Int):Bool:=(List.range c.length).any fun i=>decide (c.getD i 0>0)&& !(PZ l i)
def DR(ex c:List Int)(i:Nat):Bool:=((ex.length:Int)==0)||(List.range i).any fun j=> !(c.getD j 0==0)&&PZ ex j
def Gp(al c:List Int)(i:Nat):Bool:=(List.range i).any fun j=> !(c.getD j 0==0)&&(decide ((al.length:Int)>0)&& !(PZ al j))
def zH(r:Rule)(c:List Int):Bool:= !(Gp r.all c c.length)&&DR r.ex c c.length
theorem Jm{ex c:List Int}{i:Nat}:DR ex c (i+1)=(DR ex c i||(!(c.getD i 0==0)&&PZ ex i)):=by
 simp only[DR,List.range_succ,List.any_append,List.any_cons,List.any_nil,Bool.or_false,Bool.or_assoc]
theorem Jo{al c:List Int}{i:Nat}:Gp al c (i+1)=(Gp al c i||(!(c.getD i 0==0)&&(decide ((al.length:Int)>0)&& !(PZ al i)))):=by
 simp only[Gp,List.range_succ,List.any_append,List.any_cons,List.any_nil,Bool.or_false]
theorem YF{al c:List Int}{i:Nat}(hi:i<c.length)(h0:(c.getD i 0==0)=false)(h:(decide ((al.length:Int)>0)&& !(PZ al i))=true):Gp al c c.length=true :=
 Ci.2 ⟨i,hi,by rw[h0,h]; rfl⟩
theorem S.ng(r:Rule)(c:List Int)(f:Bool)(hr:uV r)(hc:c.length<2^40):aj Tryz.prog 70 [.dat (.rule r),.row 0 f (.ints c)] (.bool (zH r c)):=by
 have g1:=hr.ex; have g2:=hr.all;refine aj.of Bd.ng (by simp) rfl rfl ?_;refine aC.same [2,12,13] (fun i:Nat=>[(14,.int i),(5,.bool (DR r.ex c i))]) (fun i=>i<=c.length/\Gp r.all c i=false) (fun i=>c.length-i) 0 rfl (by decide) rfl (fun _=>rfl) ⟨by omega,rfl⟩ ⟨⟨_,rfl,rfl⟩,⟨_,rfl,?_⟩,trivial⟩ ?_
 ·show(V.bool (DR r.ex c 0)).aG=(V.bool ((r.ex.length:Int)==0)).aG;rw[DR]; simp
 refine⟨rfl,?_⟩;rintro i ⟨hi,hall⟩;refine⟨fun h3=>?_,fun h3=>?_⟩
 ·have hi':i<c.length:=by simpa using h3
  refine .mk (by simp only[Rw.rng] at *; omega) ?_;refine⟨fun h4=>?_,fun h4=>?_⟩
  ·replace h4:(c.getD i 0==0)=true:=h4;refine .mk (by simp only[okI] at *; omega) ?_;refine⟨i+1,⟨by omega,by rw[Jo,hall,h4]; rfl⟩,by omega,⟨⟨_,rfl,rfl⟩,⟨_,rfl,?_⟩,trivial⟩,?_,rfl⟩
   ·rw[Jm,h4]; simp[V.aG]
   ·repeat' (first|exact trivial|exact⟨_,rfl,rfl⟩|constructor)
  ·replace h4:(c.getD i 0==0)=false:=h4;repeat(refine VC.mk (by first|exact id|exact fun h=>⟨h,h⟩) ?_)
   refine ah.eG (fun _=>S.slices_Contains_int r.ex i false (by omega)) rfl ?_;repeat(refine VC.mk (by first|exact id|exact fun h=>⟨h,h⟩|(intro h; rw[h]; rfl)) ?_)
   refine ah.eG (fun _=>S.slices_Contains_int r.all i false (by omega)) rfl ?_;repeat(refine VC.mk id ?_)
   refine⟨fun h5=>?_,fun h5=>?_⟩
   ·conv=>whnf
    exact ak.bool (by rw[zH,YF hi' h4 h5]; rfl)
   ·conv=>whnf
    refine .mk (by simp only[okI] at *; omega) ?_;refine⟨i+1,⟨by omega,by rw[Jo,hall,h4]; simpa using h5⟩,by omega,⟨⟨_,rfl,rfl⟩,⟨_,rfl,?_⟩,trivial⟩,?_,rfl⟩
    ·rw[Jm,h4]; simp[V.aG,rD]
    ·repeat' (first|exact trivial|exact⟨_,rfl,rfl⟩|constructor)
 ·have hi':c.length<=i:=by simpa using h3
  have e:i=c.length:=Nat.le_antisymm hi hi';subst e;exact ak.bool (by rw[zH,hall]; rfl)
structure Jp(n:Nat)(r:Rule):Prop where
 src:0<=r.fr/\r.fr<n
 dst:0<=r.to/\r.to<n
 agq:0<=r.kG/\r.kG<n
 agr:0<=r.Di/\r.Di<n
 rsp:r.kind=3->r.response.length=n/\zG n r.response
 exs:zG n r.ex
def TB(c:List Int):Prop:= ∀ x∈c,0<=x/\x<=1048576
def dH(c:List Int)(i d:Int):List Int:=c.set i.toNat (c.getD i.toNat 0+d)
theorem EH{h:Hz}{j:Nat}{Z:Nat->Prop}{l:List Int}(hz:Z j)(q:h.get j=some (.row 3 0 (.ints l) [])):T.sub Z h.au (V.row 0 false (.ints l)).aG (V.own j).aG:=by
 show T.sub Z h.au (.sl 0 false (l.map T.int)) (.own j);simp only[T.sub];refine⟨trivial,hz,?_,by decide,3,?_⟩
 ·rw[iw]; intro t ht; obtain⟨x,_,rfl⟩:=List.mem_map.1 ht; rfl
 ·have:=aP q;rw[this]; simp[OV.aA,Rw.aT,V.aT]
theorem EI{n:Nat}(h:0<n):(bif isZero (.int n) then some Rw.nil else abd (n:Int).toNat (T.int 0))=some (.ints (List.replicate n 0)):=by
 cases n with
 |zero=>omega
 |succ k=>rfl
abbrev lX(l:List Int):OV:=.row 3 0 (.ints l) []
end Go.Proofs.YtdhobgbagphngaaGreatDoor
namespace Go.Proofs.YtdhobgbagphngaaGreatDoor
open Go.Ab Go.Proofs
set_option maxRecDepth 100000
theorem abe{l:List Int}{s:Int}:PZ l s=true↔s∈l:=by
 simp only[PZ,List.any_eq_true,beq_iff_eq];constructor
 ·rintro⟨x,h,rfl⟩; exact h
 ·intro h; exact⟨s,h,rfl⟩
theorem vJ{ρ:Nat->Nat}{nx pn c n:Nat}{h:Hz}{s:List Nat}{o:OV}(a:(Nat.blt c nx&&(!(Nat.blt c pn)||Nat.beq n c)&&nV n s&&(o.good nx&&o.Dp))=true)(b:(h.get n).map OV.aA=some o.aA):Nat.blt c nx=true/\(Nat.blt c pn=true->n=c)/\nV n s=true/\o.good nx=true /\
   ∃ o',h.get n=some o'/\o'.aA.ty=o.aA.ty/\o'.aA.k=o.aA.k/\dQ (T.bM ρ o.aA.l) o'.aA.l:=by
 simp only[Bool.and_eq_true,Bool.or_eq_true,Bool.not_eq_true'] at a;obtain⟨⟨⟨a1,a2⟩,a3⟩,a4,a5⟩:=a;obtain⟨o',b1,b2⟩:=Option.map_eq_some_iff.1 b;exact⟨a1,fun h=>a2.elim (fun q=>by rw[q] at h; cases h) fC,a3,a4,o',b1,by rw[b2],by rw[b2],by rw[OV.dU a5,b2]; exact .refl _⟩
theorem Yx{ρ:Nat->Nat}{nx pn c n:Nat}{h:Hz}{s:List Nat}{o o':OV}(a:(Nat.blt c nx&&(!(Nat.blt c pn)||Nat.beq n c)&&nV n s)=true)(g:o.good nx=true)(b:h.get n=some o')(t:o'.aA.ty=o.aA.ty/\o'.aA.k=o.aA.k)(l:dQ (T.bM ρ o.aA.l) o'.aA.l):Nat.blt c nx=true/\(Nat.blt c pn=true->n=c)/\nV n s=true/\o.good nx=true /\
   ∃ o',h.get n=some o'/\o'.aA.ty=o.aA.ty/\o'.aA.k=o.aA.k/\dQ (T.bM ρ o.aA.l) o'.aA.l:=by
 simp only[Bool.and_eq_true,Bool.or_eq_true,Bool.not_eq_true'] at a;obtain⟨⟨a1,a2⟩,a3⟩:=a;exact⟨a1,fun h=>a2.elim (fun q=>by rw[q] at h; cases h) fC,a3,g,o',b,t.1,t.2,l⟩
theorem okF{ρ:Nat->Nat}{nx pn c n:Nat}{h:Hz}{s:List Nat}{o o':OV}(q1:Nat.blt c nx=true)(q2:Nat.blt c pn=true->n=c)(q3:nV n s=true)(q4:(o.good nx&&o.Dp)=true)(q5:h.get n=some o')
  (q6:o'.aA.ty=o.aA.ty/\o'.aA.k=o.aA.k) (q7:o.aA.l=o'.aA.l):Nat.blt c nx=true/\(Nat.blt c pn=true->n=c)/\nV n s=true/\o.good nx=true /\
   ∃ o',h.get n=some o'/\o'.aA.ty=o.aA.ty/\o'.aA.k=o.aA.k/\dQ (T.bM ρ o.aA.l) o'.aA.l:=by
 rw[Bool.and_eq_true] at q4;exact⟨q1,q2,q3,q4.1,o',q5,q6.1,q6.2,dQ.of_eq ((OV.dU q4.2 ρ).trans q7)⟩
theorem bz{c:Bool}{a b:Int}(ha:c=true->a≠0)(h:(bif c then a else b)=0):c=false/\b=0:=by
 cases c with
 |true=>exact absurd h (ha rfl)
 |false=>exact⟨rfl,h⟩
theorem nz{a:Int}(h:(a !=0)=true):a≠0:=by simpa using h
theorem kP: ∀ {l:List Int},bH l=0-> ∀ x∈l,x=0:=by
 intro l;induction l with
 |nil=>intro _ x h; cases h
 |cons a r ih =>
  intro h x hx;simp only[bH] at h;split at h
  ·rename_i h0;rcases List.mem_cons.1 hx with rfl|hx
   ·exact h0
   ·exact ih h x hx
  ·rename_i h0; exact absurd h h0
structure Oa(p:aH):Prop where
 pos:0<p.states.length
 states:p.states.length<=6
 values:p.values.length<=3
 adE:p.rules.length<=8
 init:jf p.initial p.states.length=0
 start:p.initial≠[]
 rule: ∀ i,i<p.rules.length->gK p i=0
theorem DT{p:aH}(h:aX p=0):Oa p:=by
 unfold aX at h;obtain⟨_,h⟩:=bz (fun _=>by decide) h;obtain⟨_,h⟩:=bz (fun _=>by decide) h;obtain⟨h0,h⟩:=bz (fun _=>by decide) h;obtain⟨h1,h⟩:=bz (fun _=>by decide) h;obtain⟨_,h⟩:=bz nz h;obtain⟨_,h⟩:=bz (fun _=>by decide) h;obtain⟨_,h⟩:=bz (fun _=>by decide) h;obtain⟨h2,h⟩:=bz nz h;obtain⟨h3,h⟩:=bz nz h;have h2':yN p=0:=by simpa using h2
 have h3':DU p=0:=by simpa using h3
 have g:=kP h2';simp only[wE,Bool.or_eq_false_iff,decide_eq_false_iff_not] at h1;refine⟨?_,by omega,by omega,by omega,g _ (by simp),?_,fun i hi=>?_⟩
 ·have:(p.states.length:Int)≠0:=by simpa using h0
  omega
 ·intro e;have:=g (dV ((p.initial.length:Int)==0) 1) (by simp);rw[e] at this; exact absurd this (by decide)
 ·exact kP h3' _ (List.mem_map.2 ⟨i,by simpa using hi,rfl⟩)
theorem vK{x:Int}{n:Nat}(h:rE x n=false):0<=x/\x<n:=by
 simp only[rE,Bool.or_eq_false_iff,decide_eq_false_iff_not] at h; omega
theorem DV{x:Int}{n:Nat}(h:cO x n=0):0<=x/\x<n:=by
 refine vK ?_;unfold cO dV at h;cases hb:rE x n with
 |false=>rfl
 |true=>rw[hb] at h; exact absurd h (by decide)
theorem Gq{l:List Int}{n:Nat}(h:jf l n=0):zG n l:=by
 unfold jf at h;obtain⟨h,_⟩:=bz (fun _=>by decide) h;rw[List.any_eq_false] at h;exact fun q hq=>vK (by simpa using h q hq)
theorem P6{n:Nat}: ∀ {l:List Int},qg l n=0->zG n l:=by
 intro l;induction l with
 |nil=>intro _ q h; cases h
 |cons x r ih =>
  intro h q hq;simp only[qg] at h;split at h
  ·rename_i h0;rcases List.mem_cons.1 hq with rfl|hq
   ·exact DV h0
   ·exact ih h q hq
  ·rename_i h0; exact absurd h h0
theorem Ws{k:Int}(h:vH k 1=true):k=1\/k=2\/k=3:=by
 unfold vH at h;cases h1:(k==1) with
 |true=>exact .inl (beq_iff_eq.1 h1)
 |false =>
  cases h2:(k==2) with
  |true=>exact .inr (.inl (beq_iff_eq.1 h2))
  |false =>
   cases h3:(k==3) with
   |true=>exact .inr (.inr (beq_iff_eq.1 h3))
   |false=>rw[h1,h2,h3] at h; cases hb:(k==4||k==5)<;>rw[hb] at h<;>cases h
structure YG(n:Nat)(p:aH)(r:Rule):Prop where
 place:Jp n r
 kind:r.kind=1\/r.kind=2\/r.kind=3
 aha:zG n r.all
 ex1:r.kind≠1->r.ex=[]/\r.all=[]
 rd:rE r.read p.values.length=false\/r.read= -1
 wr:rE r.write p.values.length=false\/r.write= -1
theorem tC{p:aH}{v:Int}(h:jA p v=0):rE v p.values.length=false\/v= -1:=by
 unfold jA dV at h;have h': ¬ (v< -1\/v>=(p.values.length:Int)):=by
  intro q
  have:(decide (v< -1)||decide (v>=(p.values.length:Int)))=true:=by simpa using q
  rw[this] at h; exact absurd h (by decide)
 by_cases e:v= -1
 ·exact .inr e
 ·left;simp only[rE,Bool.or_eq_false_iff,decide_eq_false_iff_not]; omega
theorem afa{p:aH}{i:Nat}(hv:Oa p)(ht:p.topology=1)(hi:i<p.rules.length):YG p.states.length p (p.rules.getD i default):=by
 have h:=hv.rule i hi;have hpos:=hv.pos;simp only[gK,rF] at h;generalize (p.rules.getD i default)=r at h ⊢;obtain⟨_,h⟩:=bz (fun _=>by decide) h;obtain⟨hb,h⟩:=bz (fun _=>by decide) h;obtain⟨he,h⟩:=bz nz h;rw[IW,Bool.or_eq_false_iff] at he;rw[ht,Bool.or_eq_false_iff] at hb;have hk:=Ws (show vH r.kind 1=true by simpa using hb.1);have hu:lY r 1=false:=by rw[AB (by omega)]; exact hb.2
 have hun:=MG hu;have hpf:r.kind≠2->r.kind≠5->r.kG=0/\r.Di=0:=by
  intro k1 k2;simp only[lY,Vg,Bool.or_eq_false_iff] at hu;have h3:=hu.2.2.1;simp only[beq_eq_false_iff_ne.2 k1,beq_eq_false_iff_ne.2 k2,Bool.not_false,Bool.true_and,Bool.or_eq_false_iff] at h3;exact⟨TD h3.1,TD h3.2⟩
 have h00:(0:Int)<=0/\(0:Int)<p.states.length:=⟨by omega,by omega⟩
 have pn:zG p.states.length []:=fun q hq=>by cases hq
 rcases hk with e|e|e
 ·rw[e] at h;have g:=kP h;have⟨a,b⟩:=hpf (by omega) (by omega);exact⟨⟨vK he.1,vK he.2,by rw[a]; exact h00,by rw[b]; exact h00,fun q=>by omega,Gq (g (jf r.ex p.states.length) (by simp))⟩,.inl e,Gq (g (jf r.all p.states.length) (by simp)),fun q=>absurd e q,tC (g (jA p r.read) (by simp)),tC (g (jA p r.write) (by simp))⟩
 ·rw[e] at h;have g:=kP h;obtain⟨_,u1,u2,_⟩:=hun.1 (by omega);exact⟨⟨vK he.1,vK he.2,DV (g (cO r.kG p.states.length) (by simp)),DV (g (cO r.Di p.states.length) (by simp)),fun q=>by omega,by rw[u1]; exact pn⟩,.inr (.inl e),by rw[u2]; exact pn,fun _=>⟨u1,u2⟩,tC (g (jA p r.read) (by simp)),tC (g (jA p r.write) (by simp))⟩
 ·rw[e] at h;have g:=kP h;have⟨a,b⟩:=hpf (by omega) (by omega);obtain⟨_,u1,u2,_⟩:=hun.1 (by omega);have hr:=g (EJ r.response p.states.length) (by simp);unfold EJ at hr;obtain⟨r1,r2⟩:=bz (fun _=>by decide) hr;exact⟨⟨vK he.1,vK he.2,by rw[a]; exact h00,by rw[b]; exact h00,fun _=>⟨by have q9:(r.response.length:Int)=p.states.length:=(by simpa using r1); omega,P6 r2⟩,by rw[u1]; exact pn⟩,.inr (.inr e),by rw[u2]; exact pn,fun _=>⟨u1,u2⟩,tC (g (jA p r.read) (by simp)),tC (g (jA p r.write) (by simp))⟩
theorem Wu{p:aH}(h:o9 p=true):p.topology=1:=by
 simp only[o9,Bool.and_eq_true,beq_iff_eq] at h; exact h.1.1.1
structure IC(p:aH)(e:Elem):Prop where
 valid:Oa p
 plain:o9 p=true
 len:e.counts.length=p.states.length
 nums:TB e.counts
 val:0<=e.value/\e.value<max 1 (p.values.length:Int)
theorem Wv{p:aH}(h:uX p=0):aX p=0/\o9 p=true:=by
 unfold uX at h;obtain⟨h1,h⟩:=bz nz h;obtain⟨h2,_⟩:=bz (fun _=>by decide) h;refine⟨by simpa using h1,?_⟩;simp only[gW] at h2;cases hp:o9 p with
 |true=>rfl
 |false=>rw[hp] at h2; simp at h2
theorem Gs{b:Bool}{n:Int}(h:dV b n=0)(hn:n≠0):b=false:=by
 cases b with
 |false=>rfl
 |true=>exact absurd h hn
theorem Oc{x:Int}:Ag x=true↔0<=x/\x<=1048576:=by simp[Ag]
theorem Oe{p:aH}{e:Elem}(h:nX p e=false):e.counts.length=p.states.length/\TB e.counts/\0<=e.value/\e.value<max 1 (p.values.length:Int):=by
 simp only[nX,Bool.or_eq_false_iff,decide_eq_false_iff_not] at h;obtain⟨⟨⟨h1,h2⟩,h3⟩,h4⟩:=h;refine⟨?_,fun x hx=>?_,by omega,by omega⟩
 ·have:(e.counts.length:Int)=p.states.length:=by simpa using h1
  omega
 ·have:e.counts.all Ag=true:=by simpa using h2
  exact Oc.1 (List.all_eq_true.1 this x hx)
theorem ags{p:aH}{e:Elem}(h:o7 p e=0):IC p e:=by
 unfold o7 at h;obtain⟨h1,h⟩:=bz nz h;obtain⟨h2,h3⟩:=Wv (by simpa using h1);obtain⟨a,b,c⟩:=Oe (Gs h (by decide));exact⟨DT h2,h3,a,b,c⟩
theorem MH{c:List Int}{i d:Int}:(dH c i d).length=c.length:=by simp[dH]
end Go.Proofs.YtdhobgbagphngaaGreatDoor
namespace Go.Proofs.YtdhobgbagphngaaGreatDoor
open Go.Ab Go.Proofs
set_option maxRecDepth 100000
theorem ah.tidy{h:Hz}{i n:Nat}{l:List Elem}{K:V->Hz->Prop}{KW:Nat->V->Hz->Prop}(hi:h.get i=some (dF l))(hn:h.get n=none)(hl:l.length<2^30)(hs:eH l)
  (h1:K (.own i) ((i,some (dF (xX l)))::h)) (h2: ∀ m,K (.pq i 0 (xX l).length) ((i,some (.row 31 3 (.elems (xX l)) (List.replicate m zeroV)))::h)):ah Tryz.prog false none 37 [.own i] h n K KW:=by
 refine ah.YH (ts:=[.own 0]) (S.tH l 1 hl hs) rfl rfl rfl rfl hi hn ?_;rintro t hp (⟨rfl,rfl⟩|⟨m,rfl,rfl⟩)
 ·exact .inl ⟨.own i,dF (xX l),rfl,rfl,rfl,h1⟩
 ·exact .inl ⟨.pq i 0 _,.row 31 3 (.elems (xX l)) (List.replicate m zeroV),rfl,EK _ _,rfl,h2 m⟩
theorem ak.EL{h:Hz}{k:Nat}{c:Int}:ak (.dn [.row 3 false (.elems []),.int c]) (.dn [.row k true .nil,.int c]) h:=⟨by
 show T.sub (fun _=>True) h.au (.dn [.sl 3 false [],.int c]) (.dn [.sl k true [],.int c])
 simp[T.sub,T.dK]⟩
end Go.Proofs.YtdhobgbagphngaaGreatDoor
namespace Go.Proofs.YtdhobgbagphngaaGreatDoor
open Go.Ab Go.Proofs
set_option maxRecDepth 100000
theorem P7{a b:List Int}(h:pJ a b=true)(i:Nat):a.getD i 0<=b.getD i 0:=by
 obtain⟨h1,h2⟩:=rG.1 h;by_cases hi:i<a.length
 ·exact h2 i hi
 ·rw[show a.getD i 0=0 by simp[List.getD_eq_getElem?_getD,List.getElem?_eq_none (by omega:a.length<=i)],show b.getD i 0=0 by simp[List.getD_eq_getElem?_getD,List.getElem?_eq_none (by omega:b.length<=i)]];exact Int.le_refl _
theorem Gt{c:List Int}{i d:Int}{j:Nat}:(dH c i d).getD j 0=if j=i.toNat/\j<c.length then c.getD j 0+d else c.getD j 0:=by
 unfold dH;rw[List.getD_eq_getElem?_getD,List.getElem?_set];by_cases h:i.toNat=j
 ·subst h;by_cases h2:i.toNat<c.length
  ·simp[h2]
  ·simp[h2]
 ·rw[if_neg h,if_neg (fun q=>h q.1.symm),List.getD_eq_getElem?_getD]
theorem TF{p:aH}{e:Elem}(h1:aX p=0)(h2:(gW p).cover=true)(h3:nX p e=false):o7 p e=0:=by
 have:uX p=0:=by
  unfold uX;rw[show(aX p !=0)=false by simp[h1],h2]; rfl
 rw[o7,this,h3]; rfl
structure tJ(q:Prop'):Prop where
 start:q.start.length<2^30
 bad:q.bad.length<2^30
 adjacent:q.adjacent.length<2^30
 goal:q.goal.length<2^30
 cnt: ∀ i,(q.bad.getD i default).states.length<2^30
def wF(c:Cnt):Bool:=((c.states.length:Int)==0||decide (c.least<1))||decide (c.least>3)
def YI(n:Int)(c:Cnt):Int:=bH [jf c.states n,dV (wF c) 1]
def Cj(l:List Cnt)(n:Int):Int:=bH (l.map (YI n))
def TG(p:aH)(l:List Int):Int:=bif (l.length:Int)==0 then 0 else bif p.topology==1 then 6 else bif (l.length:Int) !=2 then 1 else bH [cO (l.getD 0 0) p.states.length,cO (l.getD 1 0) p.states.length]
def zI(q:Prop'):Bool:=((q.kind==1)&&decide ((q.goal.length:Int)>0))||(!(q.kind==1)&&(decide ((q.bad.length:Int)>0)||decide ((q.adjacent.length:Int)>0)))
def qG(p:aH)(q:Prop'):Int :=
 let n:Int:=p.states.length
 bif aX p !=0 then aX p else bif !(validName q.name) then 2 else bif !(q.kind==1)&&q.kind !=2 then 1 else bif zI q then 1 else
 bif jf q.start n !=0 then jf q.start n else bif q.start.any (fun x=> !(PZ p.initial x)) then 5 else
 bif !(q.kind==1) then bH [jf q.goal n,dV ((q.goal.length:Int)==0) 1] else
 bH [dV (((q.bad.length:Int)==0)&&((q.adjacent.length:Int)==0)) 1,dV (decide ((q.bad.length:Int)>3)) 4,Cj q.bad n,TG p q.adjacent]
theorem S.mG(l:List Cnt)(n:Int)(f:Bool)(hl:l.length<2^30)(hs: ∀ i,(l.getD i default).states.length<2^30):aj Tryz.prog 115 [.row 3 f (.cnts l),.int n] (.int (Cj l n)):=by
 refine aj.of Bd.mG (by simp) rfl rfl ?_;refine aC.same [1,8,9] (fun i:Nat=>[(10,.int i)]) (fun i=>i<=l.length/\Cj l n=bH ((l.drop i).map (YI n))) (fun i=>l.length-i) 0 rfl (by decide) rfl (fun _=>rfl) ⟨by omega,by simp[Cj]⟩ ⟨⟨_,rfl,rfl⟩,trivial⟩ ?_;refine⟨rfl,?_⟩;rintro i ⟨hi,hall⟩;refine⟨fun h3=>?_,fun h3=>?_⟩
 ·have hi':i<l.length:=by simpa using h3
  rw[dA default hi',List.map_cons] at hall;simp only[bH] at hall;have hc:=hs i;refine .mk (by simp only[Rw.rng] at *; omega) ?_;refine ah.pure (S.dZ (l.getD i default).states n false (by omega)) rfl ?_;repeat(refine VC.mk (by first|exact id|(intro h; rw[h]; rfl)) ?_)
  refine ah.pure (S.bT (wF (l.getD i default)) 1) rfl ?_;refine ah.pure (S.bI [jf (l.getD i default).states n,dV (wF (l.getD i default)) 1] true (show 2<2^40 by decide)) rfl ?_;refine⟨fun h4=>?_,fun h4=>?_⟩
  ·conv=>whnf
   refine ak.int ?_;have h4':YI n (l.getD i default)≠0:=nz h4;rw[hall,if_neg h4']; rfl
  ·conv=>whnf
   refine .mk (by simp only[okI] at *; omega) ?_;conv=>whnf
   have h4':YI n (l.getD i default)=0:=AA h4;rw[if_pos h4'] at hall;refine⟨i+1,⟨by omega,hall⟩,by omega,⟨⟨_,rfl,rfl⟩,trivial⟩,?_,rfl⟩;repeat' (first|exact trivial|exact⟨_,rfl,rfl⟩|constructor)
 ·have hi':l.length<=i:=by simpa using h3
  rw[List.drop_eq_nil_of_le hi'] at hall;exact ak.int (by rw[hall]; rfl)
theorem S.kH(p:aH)(l:List Int)(f:Bool)(_hl:l.length<2^30):aj Tryz.prog 116 [.dat (.fK p),.row 0 f (.ints l)] (.int (TG p l)):=by
 refine aj.of Bd.kH (by simp) rfl rfl ?_;refine⟨fun h1=>?_,fun h1=>?_⟩
 ·conv=>whnf
  exact ak.int (by rw[TG,h1]; rfl)
 refine⟨fun h2=>?_,fun h2=>?_⟩
 ·conv=>whnf
  exact ak.int (by rw[TG,h1,h2]; rfl)
 refine⟨fun h3=>?_,fun h3=>?_⟩
 ·conv=>whnf
  exact ak.int (by rw[TG,h1,h2,h3]; rfl)
 have h4:l.length=2:=by
  have:(l.length:Int)=2:=by simpa using h3
  omega
 repeat(refine VC.mk (by simp only[Rw.rng] at *; omega) ?_)
 refine ah.pure (S.bV (l.getD 0 0) p.states.length) rfl ?_;refine ah.pure (S.bV (l.getD 1 0) p.states.length) rfl ?_;refine ah.pure (S.bI [cO (l.getD 0 0) p.states.length,cO (l.getD 1 0) p.states.length] true (show 2<2^40 by decide)) rfl ?_;exact ak.int (by rw[TG,h1,h2,h3]; rfl)
theorem S.dY(p:aH)(q:Prop')(hp:dG p)(hq:tJ q):aj Tryz.prog 83 [.dat (.fK p),.dat (.prop q)] (.int (qG p q)):=by
 have g1:=hp.states; have g5:=hp.initial;have q1:=hq.start; have q2:=hq.bad; have q3:=hq.adjacent; have q4:=hq.goal;refine aj.of Bd.dY (by simp) rfl rfl ?_;refine ah.pure (S.fO p hp) rfl ?_;refine⟨fun h1=>?_,fun h1=>?_⟩
 ·conv=>whnf
  exact ak.int (by rw[qG,h1]; rfl)
 refine ah.pure (S.gB q.name) rfl ?_;refine⟨fun h2=>?_,fun h2=>?_⟩
 ·conv=>whnf
  exact ak.int (by rw[qG,h1,h2]; rfl)
 repeat(refine VC.mk id ?_)
 refine⟨fun h3=>?_,fun h3=>?_⟩
 ·conv=>whnf
  exact ak.int (by rw[qG,h1,h2,h3]; rfl)
 repeat(refine VC.mk id ?_)
 refine⟨fun h4=>?_,fun h4=>?_⟩
 ·conv=>whnf
  refine Fork.mk (fun _=>?_) (fun q=>absurd (q.symm.trans (h4)) Bool.false_ne_true);exact ak.int (by rw[qG,h1,h2,h3,show zI q=true by rw[zI]; erw [h4]; rfl]; rfl)
 repeat(refine VC.mk (by first|exact id|(intro h; simp_all; done)) ?_)
 refine⟨fun h5=>?_,fun h5=>?_⟩
 ·conv=>whnf
  exact ak.int (by rw[qG,h1,h2,h3,show zI q=true by rw[zI]; erw [h5]; simp]; rfl)
 have h45:zI q=false:=by rw[zI]; erw [h4,h5]; rfl
 refine ah.pure (S.dZ q.start p.states.length false (by omega)) rfl ?_;refine⟨fun h6=>?_,fun h6=>?_⟩
 ·conv=>whnf
  exact ak.int (by rw[qG,h1,h2,h3,h45,h6]; rfl)
 refine aC.same [2,3,6,7,65,66] (fun i:Nat=>[(67,.int i)]) (fun i=>i<=q.start.length/\(q.start.take i).any (fun x=> !(PZ p.initial x))=false) (fun i=>q.start.length-i) 0 rfl (by decide) rfl (fun _=>rfl) ⟨by omega,by simp⟩ ⟨⟨_,rfl,rfl⟩,trivial⟩ ?_;refine⟨rfl,?_⟩;rintro i ⟨hi,hall⟩;refine⟨fun h7=>?_,fun h7=>?_⟩
 ·have hi':i<q.start.length:=by simpa using h7
  refine .mk (by simp only[Rw.rng] at *; omega) ?_;refine ah.pure (S.slices_Contains_int p.initial (q.start.getD i 0) false (by omega)) rfl ?_;refine⟨fun h8=>?_,fun h8=>?_⟩
  ·conv=>whnf
   exact ak.int (by rw[qG,h1,h2,h3,h45,h6,lZ (d:=0) hi' h8]; rfl)
  ·conv=>whnf
   refine .mk (by simp only[okI] at *; omega) ?_;refine⟨i+1,⟨by omega,?_⟩,by omega,⟨⟨_,rfl,rfl⟩,trivial⟩,?_,rfl⟩
   ·rw[pK (d:=0) hi' hall]; exact h8
   ·repeat' (first|exact trivial|exact⟨_,rfl,rfl⟩|constructor)
 have hi':q.start.length<=i:=by simpa using h7
 rw[List.take_of_length_le hi'] at hall;refine⟨fun h8=>?_,fun h8=>?_⟩
 ·conv=>whnf
  refine ah.pure (S.dZ q.goal p.states.length false (by omega)) rfl ?_;refine ah.pure (S.bT ((q.goal.length:Int)==0) 1) rfl ?_;refine ah.pure (S.bI [jf q.goal p.states.length,dV ((q.goal.length:Int)==0) 1] true (show 2<2^40 by decide)) rfl ?_;exact ak.int (by rw[qG,h1,h2,h3,h45,h6,hall,h8]; rfl)
 repeat(refine VC.mk id ?_)
 refine ah.pure (S.bT (((q.bad.length:Int)==0)&&((q.adjacent.length:Int)==0)) 1) rfl ?_;refine ah.pure (S.bT (decide ((q.bad.length:Int)>3)) 4) rfl ?_;refine ah.pure (S.mG q.bad p.states.length false q2 hq.cnt) rfl ?_;refine ah.pure (S.kH p q.adjacent false q3) rfl ?_;refine ah.pure (S.bI [dV (((q.bad.length:Int)==0)&&((q.adjacent.length:Int)==0)) 1,dV (decide ((q.bad.length:Int)>3)) 4,Cj q.bad p.states.length,TG p q.adjacent] true (show 4<2^40 by decide)) rfl ?_;exact ak.int (by rw[qG,h1,h2,h3,h45,h6,hall,h8]; rfl)
end Go.Proofs.YtdhobgbagphngaaGreatDoor
namespace Go.Proofs.YtdhobgbagphngaaGreatDoor
open Go.Ab Go.Proofs
set_option maxRecDepth 100000
theorem ak.afb{h:Hz}{j:Nat}{l:List Int}(q:h.get j=some (lX l)):ak (.row 0 false (.ints l)) (.own j) h:=⟨EH trivial q⟩
theorem ak.agt{h:Hz}{k k':Nat}{r:Rw}(e:r.len=0):ak (.row k false r) (.row k' true .nil) h:=⟨by
 have:r.aT=[]:=List.eq_nil_of_length_eq_zero (by rw[Rw.eF]; exact e)
 show T.sub (fun _=>True) h.au (.sl k false r.aT) (.sl k' true [])
 rw[this]; simp[T.sub]⟩
theorem S.MI(l:List Int)(f:Bool)(hl:l.length<2^30):aj Tryz.prog 121 [.row 0 f (.ints l)] (.row 0 false (.ints l)):=by
 refine aj.of Bd.nG (by simp) rfl rfl ?_;refine YJ.mk (fun hz=>?_) ?_
 ·conv=>whnf
  refine Fork.mk (fun _=>?_) (fun q=>absurd (q.symm.trans ((rfl:true=true))) Bool.false_ne_true);exact ak.agt hz
 ·conv=>whnf
  refine Fork.mk (fun q=>absurd (q.symm.trans ((rfl:false=false))).symm Bool.false_ne_true) (fun _=>?_);refine .mk (by simp only[mJ,nP,Rw.len]; omega) ?_;repeat(refine VC.mk (by simp only[mJ,nP,Rw.len]; omega) ?_)
  exact ak.afb rfl
def yA(p:aH)(q:Prop'):List Int:=bif decide ((q.start.length:Int)>0) then q.start else p.initial
def fP(p:aH)(q:Prop'):Int:=bif qG p q !=0 then qG p q else dV (!(gW p).cover||q.kind !=1) 7
theorem Jq{p:aH}{q:Prop'}(h:qG p q=0):aX p=0:=by
 unfold qG at h;obtain⟨h1,_⟩:=bz nz h;exact AA h1
theorem Wx{p:aH}{q:Prop'}(h:qG p q=0):fP p q=dV (!(bif aX p !=0 then EM else gW p).cover||q.kind !=1) 7:=by
 have h2:=Jq h;rw[fP,show(qG p q !=0)=false by simp[h],show(aX p !=0)=false by simp[h2]]; rfl
theorem S.nY(p:aH)(q:Prop')(hp:dG p)(hq:tJ q):aj Tryz.prog 43 [.dat (.fK p),.dat (.prop q)] (.int (fP p q)):=by
 refine aj.of Bd.nY (by simp) rfl rfl ?_;refine ah.pure (S.dY p q hp hq) rfl ?_;refine⟨fun h1=>?_,fun h1=>?_⟩
 ·conv=>whnf
  exact ak.int (by rw[fP,h1]; rfl)
 rw[Wx (AA h1)];refine ah.pure (S.gX p hp) rfl ?_;repeat(refine VC.mk (by first|exact id|(intro h; rw[h]; rfl)) ?_)
 refine⟨fun h2=>?_,fun h2=>?_⟩
 ·conv=>whnf
  exact ak.int (by rw[h2]; rfl)
 ·conv=>whnf
  exact ak.int (by rw[h2]; rfl)
theorem S.mM(p:aH)(q:Prop')(hp:dG p)(hq:tJ q)(hv:qG p q=0):aj Tryz.prog 89 [.dat (.fK p),.dat (.prop q)] (.dn [.row 0 false (.ints (yA p q)),.int 0]):=by
 have g5:=hp.initial; have q1:=hq.start;refine aj.of Bd.mM (by simp) rfl rfl ?_;refine ah.pure (S.dY p q hp hq) rfl ?_;refine Fork.mk (fun q=>absurd (q.symm.trans ((by simp[hv]))).symm Bool.false_ne_true) (fun _=>?_);refine⟨fun h2=>?_,fun h2=>?_⟩
 ·conv=>whnf
  refine ah.pure (S.MI q.start false q1) rfl ?_;exact ak.eqv (by rw[yA,show decide ((q.start.length:Int)>0)=true from h2]; rfl)
 ·conv=>whnf
  refine ah.pure (S.MI p.initial false g5) rfl ?_;exact ak.eqv (by rw[yA,show decide ((q.start.length:Int)>0)=false from h2]; rfl)
def EN(p:aH)(q:Prop')(e:Elem):Bool:= !(adD e.counts (yA p q))&&(e.value==0)
theorem Wy{p:aH}{q:Prop'}(hp:dG p)(hq:tJ q):(yA p q).length<2^30:=by
 unfold yA;cases decide ((q.start.length:Int)>0)
 ·exact hp.initial
 ·exact hq.start
theorem S.ny(p:aH)(q:Prop')(e:Elem)(hp:dG p)(hq:tJ q)(he:e.counts.length<2^30)(hv:qG p q=0):aj Tryz.prog 45 [.dat (.fK p),.dat (.prop q),.dat (.elem e)] (.bool (EN p q e)):=by
 have hst:=Wy hp hq;refine aj.of Bd.ny (by simp) rfl rfl ?_;refine ah.pure (S.mM p q hp hq hv) rfl ?_;refine aC.same [5,7,18,19] (fun i:Nat=>[(20,.int i)]) (fun i=>i<=e.counts.length/\(List.range i).any (fun i=>decide (e.counts.getD i 0>0)&& !(PZ (yA p q) i))=false) (fun i=>e.counts.length-i) 0 rfl (by decide) rfl (fun _=>rfl) ⟨by omega,by simp⟩ ⟨⟨_,rfl,rfl⟩,trivial⟩ ?_;refine⟨rfl,?_⟩;rintro i ⟨hi,hall⟩;refine⟨fun h3=>?_,fun h3=>?_⟩
 ·have hi':i<e.counts.length:=by simpa using h3
  repeat(refine VC.mk (by first|exact fun h=>⟨h,h⟩|(simp only[Rw.rng] at *; omega)) ?_)
  refine ah.eG (fun _=>S.slices_Contains_int (yA p q) i false (by omega)) rfl ?_;repeat(refine VC.mk id ?_)
  refine⟨fun h4=>?_,fun h4=>?_⟩
  ·conv=>whnf
   have:adD e.counts (yA p q)=true:=Ci.2 ⟨i,hi',h4⟩
   exact ak.bool (by rw[EN,this]; rfl)
  ·conv=>whnf
   refine .mk (by simp only[okI] at *; omega) ?_;refine⟨i+1,⟨by omega,?_⟩,by omega,⟨⟨_,rfl,rfl⟩,trivial⟩,?_,rfl⟩
   ·rw[List.range_succ,List.any_append,hall];simp only[List.any_cons,List.any_nil,Bool.or_false,Bool.false_or]; exact h4
   ·repeat' (first|exact trivial|exact⟨_,rfl,rfl⟩|constructor)
 ·have hi':e.counts.length<=i:=by simpa using h3
  have ei:i=e.counts.length:=Nat.le_antisymm hi hi';subst ei;exact ak.bool (by rw[EN,show adD e.counts (yA p q)=false from hall]; rfl)
theorem DW{p:aH}{q:Prop'}(h:fP p q=0):qG p q=0:=by
 unfold fP at h;obtain⟨h1,_⟩:=bz nz h;exact AA h1
end Go.Proofs.YtdhobgbagphngaaGreatDoor
