/-
 A part of the proof. No condition.
-/
import Derived.Test.YtkmldgihhaooaaaGreatDoorRb
import Derived.Test.YtkmldgihhaooaaaGreatDoorLg
import Derived.Test.YtkmldgihhaooaaaGreatDoorKa
namespace Go.Proofs.YtkmldgihhaooaaaGreatDoor
open Go.Ab Go.Proofs
set_option maxRecDepth 100000
def E8(s:Int):List Int->Nat->Int
 |[],_=> -1
 |x::r,i=>bif s==x then(i:Int) else E8 s r (i+1)
theorem Zy{s:Int}{l:List Int}:decide (0<=E8 s l 0)=l.any fun x=>s==x:=by
 have: ∀ {l:List Int} {i:Nat},0<=E8 s l i↔(l.any fun x=>s==x)=true:=by
  intro l
  induction l with
  |nil=>intro i; simp[E8]
  |cons x r ih =>
   intro i
   rw[List.any_cons,Bool.or_eq_true,<- ih (i:=i+1)]
   show(0:Int)<=(bif s==x then(i:Int) else E8 s r (i+1))↔_
   generalize (s==x)=b
   cases b<;>simp
 rw[Bool.eq_iff_iff,decide_eq_true_eq]; exact this
theorem S.slices_Index_int(l:List Int)(s:Int)(f:Bool)(hl:l.length<2^40):aj Tryz.prog 115 [.row 0 f (.ints l),.int s] (.int (E8 s l 0)):=by
 refine aj.of Bd.nO (by simp) rfl rfl ?_
 refine aC.same [0,1,6,7] (fun i:Nat=>[(8,.int i)]) (fun i=>i<=l.length/\E8 s l 0=E8 s (l.drop i) i) (fun i=>l.length-i) 0 rfl (by decide) rfl (fun _=>rfl) ⟨by omega,by simp⟩ ⟨⟨_,rfl,rfl⟩,trivial⟩ ?_
 refine⟨rfl,?_⟩
 rintro i ⟨hi,hall⟩
 refine⟨fun h3=>?_,fun h3=>?_⟩
 ·have hi':i<l.length:=by simpa using h3
  rw[dn 0 hi'] at hall
  simp only[E8] at hall
  refine .mk (by simp only[Rw.rng] at *; omega) ?_
  refine⟨fun h4=>?_,fun h4=>?_⟩
  ·conv=>whnf
   refine ak.int ?_
   have h4':(s==l.getD i 0)=true:=h4
   rw[hall,h4']; rfl
  ·conv=>whnf
   refine .mk (by simp only[okI] at *; omega) ?_
   refine⟨i+1,⟨by omega,?_⟩,by omega,⟨⟨_,rfl,rfl⟩,trivial⟩,?_,rfl⟩
   ·have h4':(s==l.getD i 0)=false:=h4
    rw[hall,h4']; rfl
   ·repeat' (first|exact trivial|exact⟨_,rfl,rfl⟩|constructor)
 ·conv=>whnf
  refine ak.int ?_
  have hi':l.length<=i:=by simpa using h3
  rw[hall,List.drop_eq_nil_of_le hi']; rfl
def MN(l:List Int)(s:Int):Bool:=l.any fun x=>s==x
theorem S.slices_Contains_int(l:List Int)(s:Int)(f:Bool)(hl:l.length<2^40):aj Tryz.prog 73 [.row 0 f (.ints l),.int s] (.bool (MN l s)):=by
 refine aj.of Bd.kU (by simp) rfl rfl ?_
 refine ah.pure (S.slices_Index_int l s f hl) rfl ?_
 exact ak.bool Zy.symm
def IV(c l:List Int):Bool:=l.any fun q=>decide (c.getD q.toNat 0>0)
def qy(n:Nat)(l:List Int):Prop:= ∀ q∈l,0<=q/\q<n
theorem S.AV(c l:List Int)(f g:Bool)(_hc:c.length<2^40)(hl:l.length<2^40)(hp:qy c.length l):aj Tryz.prog 122 [.row 0 f (.ints c),.row 0 g (.ints l)] (.bool (IV c l)):=by
 refine aj.of Bd.AV (by simp) rfl rfl ?_
 refine aC.same [0,1] (fun i:Nat=>[(5,.int i)]) (fun i=>i<=l.length/\(l.take i).any (fun q=>decide (c.getD q.toNat 0>0))=false) (fun i=>l.length-i) 0 rfl (by decide) rfl (fun _=>rfl) ⟨by omega,by simp⟩ ⟨⟨_,rfl,rfl⟩,trivial⟩ ?_
 refine⟨rfl,?_⟩
 rintro i ⟨hi,hall⟩
 refine⟨fun h3=>?_,fun h3=>?_⟩
 ·have hi':i<l.length:=by simpa using h3
  have hq:0<=l.getD i 0/\l.getD i 0<c.length:=by
   rw[show l.getD i 0=l[i] by simp[hi']]; exact hp _ (List.getElem_mem hi')
  repeat(refine VC.mk (by simp only[Rw.rng] at *; first|omega|(simp_all; done)|(simp_all; omega)) ?_)
  refine⟨fun h4=>?_,fun h4=>?_⟩
  ·conv=>whnf
   exact ak.bool (jL (d:=0) hi' h4)
  ·conv=>whnf
   refine .mk (by simp only[okI] at *; first|omega|(simp_all; done)|(simp_all; omega)) ?_
   refine⟨i+1,⟨by omega,?_⟩,by omega,⟨⟨_,rfl,rfl⟩,trivial⟩,?_,rfl⟩
   ·rw[mV (d:=0) hi' hall]; exact h4
   ·repeat' (first|exact trivial|exact⟨_,rfl,rfl⟩|constructor)
 ·have hi':l.length<=i:=by simpa using h3
  rw[List.take_of_length_le hi'] at hall
  exact ak.bool hall
def aeH(c l:List Int):Bool:=(List.range c.length).any fun i=>decide (c.getD i 0>0)&& !(MN l i)
def wE(ex c:List Int)(i:Nat):Bool:=((ex.length:Int)==0)||(List.range i).any fun j=> !(c.getD j 0==0)&&MN ex j
def AX(al c:List Int)(i:Nat):Bool:=(List.range i).any fun j=> !(c.getD j 0==0)&&(decide ((al.length:Int)>0)&& !(MN al j))
def qA(r:Rule)(c:List Int):Bool:= !(AX r.all c c.length)&&wE r.ex c c.length
theorem JY{ex c:List Int}{i:Nat}:wE ex c (i+1)=(wE ex c i||(!(c.getD i 0==0)&&MN ex i)):=by
 simp only[wE,List.range_succ,List.any_append,List.any_cons,List.any_nil,Bool.or_false,Bool.or_assoc]
theorem JZ{al c:List Int}{i:Nat}:AX al c (i+1)=(AX al c i||(!(c.getD i 0==0)&&(decide ((al.length:Int)>0)&& !(MN al i)))):=by
 simp only[AX,List.range_succ,List.any_append,List.any_cons,List.any_nil,Bool.or_false]
theorem Zz{al c:List Int}{i:Nat}(hi:i<c.length)(h0:(c.getD i 0==0)=false)(h:(decide ((al.length:Int)>0)&& !(MN al i))=true):AX al c c.length=true :=
 CU.2 ⟨i,hi,by rw[h0,h]; rfl⟩
theorem S.nK(r:Rule)(c:List Int)(f:Bool)(hr:uT r)(hc:c.length<2^40):aj Tryz.prog 106 [.dat (.rule r),.row 0 f (.ints c)] (.bool (qA r c)):=by
 have g1:=hr.ex; have g2:=hr.all
 refine aj.of Bd.nK (by simp) rfl rfl ?_
 refine aC.same [2,12,13] (fun i:Nat=>[(14,.int i),(5,.bool (wE r.ex c i))]) (fun i=>i<=c.length/\AX r.all c i=false) (fun i=>c.length-i) 0 rfl (by decide) rfl (fun _=>rfl) ⟨by omega,rfl⟩ ⟨⟨_,rfl,rfl⟩,⟨_,rfl,?_⟩,trivial⟩ ?_
 ·show(V.bool (wE r.ex c 0)).aH=(V.bool ((r.ex.length:Int)==0)).aH
  rw[wE]; simp
 refine⟨rfl,?_⟩
 rintro i ⟨hi,hall⟩
 refine⟨fun h3=>?_,fun h3=>?_⟩
 ·have hi':i<c.length:=by simpa using h3
  refine .mk (by simp only[Rw.rng] at *; omega) ?_
  refine⟨fun h4=>?_,fun h4=>?_⟩
  ·replace h4:(c.getD i 0==0)=true:=h4
   refine .mk (by simp only[okI] at *; omega) ?_
   refine⟨i+1,⟨by omega,by rw[JZ,hall,h4]; rfl⟩,by omega,⟨⟨_,rfl,rfl⟩,⟨_,rfl,?_⟩,trivial⟩,?_,rfl⟩
   ·rw[JY,h4]; simp[V.aH]
   ·repeat' (first|exact trivial|exact⟨_,rfl,rfl⟩|constructor)
  ·replace h4:(c.getD i 0==0)=false:=h4
   repeat(refine VC.mk (by first|exact id|exact fun h=>⟨h,h⟩) ?_)
   refine ah.ig (fun _=>S.slices_Contains_int r.ex i false (by omega)) rfl ?_
   repeat(refine VC.mk (by first|exact id|exact fun h=>⟨h,h⟩|(intro h; rw[h]; rfl)) ?_)
   refine ah.ig (fun _=>S.slices_Contains_int r.all i false (by omega)) rfl ?_
   repeat(refine VC.mk id ?_)
   refine⟨fun h5=>?_,fun h5=>?_⟩
   ·conv=>whnf
    exact ak.bool (by rw[qA,Zz hi' h4 h5]; rfl)
   ·conv=>whnf
    refine .mk (by simp only[okI] at *; omega) ?_
    refine⟨i+1,⟨by omega,by rw[JZ,hall,h4]; simpa using h5⟩,by omega,⟨⟨_,rfl,rfl⟩,⟨_,rfl,?_⟩,trivial⟩,?_,rfl⟩
    ·rw[JY,h4]; simp[V.aH,sV]
    ·repeat' (first|exact trivial|exact⟨_,rfl,rfl⟩|constructor)
 ·have hi':c.length<=i:=by simpa using h3
  have e:i=c.length:=Nat.le_antisymm hi hi'
  subst e
  exact ak.bool (by rw[qA,hall]; rfl)
structure oC(n:Nat)(r:Rule):Prop where
 src:0<=r.fr/\r.fr<n
 dst:0<=r.to/\r.to<n
 af8:0<=r.iV/\r.iV<n
 af9:0<=r.zI/\r.zI<n
 rsp:r.kind=3->r.response.length=n/\qy n r.response
 exs:qy n r.ex
def Nq(c:List Int):Prop:= ∀ x∈c,0<=x/\x<=1048576
def aT(c:List Int)(i d:Int):List Int:=c.set i.toNat (c.getD i.toNat 0+d)
def Nr(c:List Int)(i:Int):List Int:=c.set i.toNat (c.getD i.toNat 0-1)
theorem AY{h:Hz}{j:Nat}{Z:Nat->Prop}{l:List Int}(hz:Z j)(q:h.get j=some (.row 3 0 (.ints l) [])):T.sub Z h.ay (V.row 0 false (.ints l)).aH (V.own j).aH:=by
 show T.sub Z h.ay (.sl 0 false (l.map T.int)) (.own j)
 simp only[T.sub]
 refine⟨trivial,hz,?_,by decide,3,?_⟩
 ·rw[fU]; intro t ht; obtain⟨x,_,rfl⟩:=List.mem_map.1 ht; rfl
 ·have:=aK q
  rw[this]; simp[OV.au,Rw.aU,V.aU]
theorem E9{n:Nat}(h:0<n):(bif isZero (.int n) then some Rw.nil else ZA (n:Int).toNat (T.int 0))=some (.ints (List.replicate n 0)):=by
 cases n with
 |zero=>omega
 |succ k=>rfl
abbrev jm(l:List Int):OV:=.row 3 0 (.ints l) []
end Go.Proofs.YtkmldgihhaooaaaGreatDoor
namespace Go.Proofs.YtkmldgihhaooaaaGreatDoor
open Go.Ab Go.Proofs
set_option maxRecDepth 100000
theorem Jv{l:List Int}{s:Int}:MN l s=true↔s∈l:=by
 simp only[MN,List.any_eq_true,beq_iff_eq]
 constructor
 ·rintro⟨x,h,rfl⟩; exact h
 ·intro h; exact⟨s,h,rfl⟩
theorem found_eq{ex c:List Int}(hc: ∀ i,0<=c.getD i 0)(hx:qy c.length ex):(!(wE ex c c.length))=(decide (0<(ex.length:Int))&& !(IV c ex)):=by
 have h:wE ex c c.length=(!(decide (0<(ex.length:Int)))||IV c ex):=by
  rw[wE]
  congr 1
  ·rw[Bool.eq_iff_iff]; simp
  ·rw[Bool.eq_iff_iff]
   simp only[IV,List.mem_range,Bool.and_eq_true,decide_eq_true_eq,Bool.not_eq_true',beq_eq_false_iff_ne,ne_eq,List.any_eq_true,Jv]
   constructor
   ·rintro⟨i,h1,h2,h3⟩
    exact⟨i,h3,by have:=hc i; simp only[Int.toNat_natCast]; omega⟩
   ·rintro⟨q,h1,h2⟩
    obtain⟨t1,t2⟩:=hx q h1
    have t3:q.toNat<c.length:=by omega
    have t4: ¬ c.getD q.toNat 0=0:=by omega
    exact⟨q.toNat,t3,t4,by rw[Int.toNat_of_nonneg t1]; exact h1⟩
 rw[h]; cases decide (0<(ex.length:Int))<;>cases IV c ex<;>rfl
theorem MO{ρ:Nat->Nat}{nx pn c n:Nat}{h:Hz}{s:List Nat}{o:OV}(a:(Nat.blt c nx&&(!(Nat.blt c pn)||Nat.beq n c)&&oD n s&&(o.good nx&&o.CV))=true)(b:(h.get n).map OV.au=some o.au):Nat.blt c nx=true/\(Nat.blt c pn=true->n=c)/\oD n s=true/\o.good nx=true /\
   ∃ o',h.get n=some o'/\o'.au.ty=o.au.ty/\o'.au.k=o.au.k/\dR (T.bK ρ o.au.l) o'.au.l:=by
 simp only[Bool.and_eq_true,Bool.or_eq_true,Bool.not_eq_true'] at a
 obtain⟨⟨⟨a1,a2⟩,a3⟩,a4,a5⟩:=a
 obtain⟨o',b1,b2⟩:=Option.map_eq_some_iff.1 b
 exact⟨a1,fun h=>a2.elim (fun q=>by rw[q] at h; cases h) eY,a3,a4,o',b1,by rw[b2],by rw[b2],by rw[OV.dS a5,b2]; exact .refl _⟩
theorem okJ{ρ:Nat->Nat}{nx pn c n:Nat}{h:Hz}{s:List Nat}{o o':OV}(a:(Nat.blt c nx&&(!(Nat.blt c pn)||Nat.beq n c)&&oD n s)=true)(g:o.good nx=true)(b:h.get n=some o')(t:o'.au.ty=o.au.ty/\o'.au.k=o.au.k)(l:dR (T.bK ρ o.au.l) o'.au.l):Nat.blt c nx=true/\(Nat.blt c pn=true->n=c)/\oD n s=true/\o.good nx=true /\
   ∃ o',h.get n=some o'/\o'.au.ty=o.au.ty/\o'.au.k=o.au.k/\dR (T.bK ρ o.au.l) o'.au.l:=by
 simp only[Bool.and_eq_true,Bool.or_eq_true,Bool.not_eq_true'] at a
 obtain⟨⟨a1,a2⟩,a3⟩:=a
 exact⟨a1,fun h=>a2.elim (fun q=>by rw[q] at h; cases h) eY,a3,g,o',b,t.1,t.2,l⟩
theorem okF{ρ:Nat->Nat}{nx pn c n:Nat}{h:Hz}{s:List Nat}{o o':OV}(q1:Nat.blt c nx=true)(q2:Nat.blt c pn=true->n=c)(q3:oD n s=true)(q4:(o.good nx&&o.CV)=true)(q5:h.get n=some o')
  (q6:o'.au.ty=o.au.ty/\o'.au.k=o.au.k) (q7:o.au.l=o'.au.l):Nat.blt c nx=true/\(Nat.blt c pn=true->n=c)/\oD n s=true/\o.good nx=true /\
   ∃ o',h.get n=some o'/\o'.au.ty=o.au.ty/\o'.au.k=o.au.k/\dR (T.bK ρ o.au.l) o'.au.l:=by
 rw[Bool.and_eq_true] at q4
 exact⟨q1,q2,q3,q4.1,o',q5,q6.1,q6.2,dR.of_eq ((OV.dS q4.2 ρ).trans q7)⟩
theorem bz{c:Bool}{a b:Int}(ha:c=true->a≠0)(h:(bif c then a else b)=0):c=false/\b=0:=by
 cases c with
 |true=>exact absurd h (ha rfl)
 |false=>exact⟨rfl,h⟩
theorem nz{a:Int}(h:(a !=0)=true):a≠0:=by simpa using h
theorem kV: ∀ {l:List Int},bH l=0-> ∀ x∈l,x=0:=by
 intro l
 induction l with
 |nil=>intro _ x h; cases h
 |cons a r ih =>
  intro h x hx
  simp only[bH] at h
  split at h
  ·rename_i h0
   rcases List.mem_cons.1 hx with rfl|hx
   ·exact h0
   ·exact ih h x hx
  ·rename_i h0; exact absurd h h0
structure O1(p:aO):Prop where
 pos:0<p.states.length
 states:p.states.length<=6
 values:p.values.length<=3
 ZB:p.rules.length<=8
 init:jA p.initial p.states.length=0
 start:p.initial≠[]
 rule: ∀ i,i<p.rules.length->gW p i=0
theorem O4{p:aO}(h:bn p=0):O1 p:=by
 unfold bn at h
 obtain⟨_,h⟩:=bz (fun _=>by decide) h
 obtain⟨_,h⟩:=bz (fun _=>by decide) h
 obtain⟨h0,h⟩:=bz (fun _=>by decide) h
 obtain⟨h1,h⟩:=bz (fun _=>by decide) h
 obtain⟨_,h⟩:=bz nz h
 obtain⟨_,h⟩:=bz (fun _=>by decide) h
 obtain⟨_,h⟩:=bz (fun _=>by decide) h
 obtain⟨h2,h⟩:=bz nz h
 obtain⟨h3,h⟩:=bz nz h
 have h2':yP p=0:=by simpa using h2
 have h3':D8 p=0:=by simpa using h3
 have g:=kV h2'
 simp only[wF,Bool.or_eq_false_iff,decide_eq_false_iff_not] at h1
 refine⟨?_,by omega,by omega,by omega,g _ (by simp),?_,fun i hi=>?_⟩
 ·have:(p.states.length:Int)≠0:=by simpa using h0
  omega
 ·intro e
  have:=g (dP ((p.initial.length:Int)==0) 1) (by simp)
  rw[e] at this; exact absurd this (by decide)
 ·exact kV h3' _ (List.mem_map.2 ⟨i,by simpa using hi,rfl⟩)
theorem vH{x:Int}{n:Nat}(h:qX x n=false):0<=x/\x<n:=by
 simp only[qX,Bool.or_eq_false_iff,decide_eq_false_iff_not] at h; omega
theorem D9{x:Int}{n:Nat}(h:dA x n=0):0<=x/\x<n:=by
 refine vH ?_
 unfold dA dP at h
 cases hb:qX x n with
 |false=>rfl
 |true=>rw[hb] at h; exact absurd h (by decide)
theorem G6{l:List Int}{n:Nat}(h:jA l n=0):qy n l:=by
 unfold jA at h
 obtain⟨h,_⟩:=bz (fun _=>by decide) h
 rw[List.any_eq_false] at h
 exact fun q hq=>vH (by simpa using h q hq)
theorem QB{n:Nat}: ∀ {l:List Int},qE l n=0->qy n l:=by
 intro l
 induction l with
 |nil=>intro _ q h; cases h
 |cons x r ih =>
  intro h q hq
  simp only[qE] at h
  split at h
  ·rename_i h0
   rcases List.mem_cons.1 hq with rfl|hq
   ·exact D9 h0
   ·exact ih h q hq
  ·rename_i h0; exact absurd h h0
theorem Xn{k:Int}(h:vC k 1=true):k=1\/k=2\/k=3:=by
 unfold vC at h
 cases h1:(k==1) with
 |true=>exact .inl (beq_iff_eq.1 h1)
 |false =>
  cases h2:(k==2) with
  |true=>exact .inr (.inl (beq_iff_eq.1 h2))
  |false =>
   cases h3:(k==3) with
   |true=>exact .inr (.inr (beq_iff_eq.1 h3))
   |false=>rw[h1,h2,h3] at h; cases hb:(k==4||k==5)<;>rw[hb] at h<;>cases h
structure ZC(n:Nat)(p:aO)(r:Rule):Prop where
 place:oC n r
 kind:r.kind=1\/r.kind=2\/r.kind=3
 ahX:qy n r.all
 ex1:r.kind≠1->r.ex=[]/\r.all=[]
 rd:qX r.read p.values.length=false\/r.read= -1
 wr:qX r.write p.values.length=false\/r.write= -1
theorem tC{p:aO}{v:Int}(h:jM p v=0):qX v p.values.length=false\/v= -1:=by
 unfold jM dP at h
 have h': ¬ (v< -1\/v>=(p.values.length:Int)):=by
  intro q
  have:(decide (v< -1)||decide (v>=(p.values.length:Int)))=true:=by simpa using q
  rw[this] at h; exact absurd h (by decide)
 by_cases e:v= -1
 ·exact .inr e
 ·left
  simp only[qX,Bool.or_eq_false_iff,decide_eq_false_iff_not]; omega
theorem aga{p:aO}{i:Nat}(hv:O1 p)(ht:p.topology=1)(hi:i<p.rules.length):ZC p.states.length p (p.rules.getD i default):=by
 have h:=hv.rule i hi
 have hpos:=hv.pos
 simp only[gW,rF] at h
 generalize (p.rules.getD i default)=r at h ⊢
 obtain⟨_,h⟩:=bz (fun _=>by decide) h
 obtain⟨hb,h⟩:=bz (fun _=>by decide) h
 obtain⟨he,h⟩:=bz nz h
 rw[Jw,Bool.or_eq_false_iff] at he
 rw[ht,Bool.or_eq_false_iff] at hb
 have hk:=Xn (show vC r.kind 1=true by simpa using hb.1)
 have hu:mg r 1=false:=by rw[AZ (by omega)]; exact hb.2
 have hun:=Ns hu
 have hpf:r.kind≠2->r.kind≠5->r.iV=0/\r.zI=0:=by
  intro k1 k2
  simp only[mg,VJ,Bool.or_eq_false_iff] at hu
  have h3:=hu.2.2.1
  simp only[beq_eq_false_iff_ne.2 k1,beq_eq_false_iff_ne.2 k2,Bool.not_false,Bool.true_and,Bool.or_eq_false_iff] at h3
  exact⟨Ui h3.1,Ui h3.2⟩
 have h00:(0:Int)<=0/\(0:Int)<p.states.length:=⟨by omega,by omega⟩
 have pn:qy p.states.length []:=fun q hq=>by cases hq
 rcases hk with e|e|e
 ·rw[e] at h
  have g:=kV h
  have⟨a,b⟩:=hpf (by omega) (by omega)
  exact⟨⟨vH he.1,vH he.2,by rw[a]; exact h00,by rw[b]; exact h00,fun q=>by omega,G6 (g (jA r.ex p.states.length) (by simp))⟩,.inl e,G6 (g (jA r.all p.states.length) (by simp)),fun q=>absurd e q,tC (g (jM p r.read) (by simp)),tC (g (jM p r.write) (by simp))⟩
 ·rw[e] at h
  have g:=kV h
  obtain⟨_,u1,u2,_⟩:=hun.1 (by omega)
  exact⟨⟨vH he.1,vH he.2,D9 (g (dA r.iV p.states.length) (by simp)),D9 (g (dA r.zI p.states.length) (by simp)),fun q=>by omega,by rw[u1]; exact pn⟩,.inr (.inl e),by rw[u2]; exact pn,fun _=>⟨u1,u2⟩,tC (g (jM p r.read) (by simp)),tC (g (jM p r.write) (by simp))⟩
 ·rw[e] at h
  have g:=kV h
  have⟨a,b⟩:=hpf (by omega) (by omega)
  obtain⟨_,u1,u2,_⟩:=hun.1 (by omega)
  have hr:=g (Fa r.response p.states.length) (by simp)
  unfold Fa at hr
  obtain⟨r1,r2⟩:=bz (fun _=>by decide) hr
  exact⟨⟨vH he.1,vH he.2,by rw[a]; exact h00,by rw[b]; exact h00,fun _=>⟨by have q9:(r.response.length:Int)=p.states.length:=(by simpa using r1); omega,QB r2⟩,by rw[u1]; exact pn⟩,.inr (.inr e),by rw[u2]; exact pn,fun _=>⟨u1,u2⟩,tC (g (jM p r.read) (by simp)),tC (g (jM p r.write) (by simp))⟩
theorem Xo{p:aO}(h:rG p=true):p.topology=1:=by
 simp only[rG,Bool.and_eq_true,beq_iff_eq] at h; exact h.1.1.1
structure AQ(p:aO)(e:Elem):Prop where
 valid:O1 p
 plain:rG p=true
 len:e.counts.length=p.states.length
 nums:Nq e.counts
 val:0<=e.value/\e.value<max 1 (p.values.length:Int)
theorem Xp{p:aO}(h:Xq p=0):bn p=0/\rG p=true:=by
 unfold Xq at h
 obtain⟨h1,h⟩:=bz nz h
 obtain⟨h2,_⟩:=bz (fun _=>by decide) h
 refine⟨by simpa using h1,?_⟩
 simp only[fK] at h2
 cases hp:rG p with
 |true=>rfl
 |false=>rw[hp] at h2; simp at h2
theorem G7{b:Bool}{n:Int}(h:dP b n=0)(hn:n≠0):b=false:=by
 cases b with
 |false=>rfl
 |true=>exact absurd h hn
theorem VK{x:Int}:AP x=true↔0<=x/\x<=1048576:=by simp[AP]
theorem aeI{p:aO}{e:Elem}(h:jc p e=false):e.counts.length=p.states.length/\Nq e.counts/\0<=e.value/\e.value<max 1 (p.values.length:Int):=by
 simp only[jc,Bool.or_eq_false_iff,decide_eq_false_iff_not] at h
 obtain⟨⟨⟨h1,h2⟩,h3⟩,h4⟩:=h
 refine⟨?_,fun x hx=>?_,by omega,by omega⟩
 ·have:(e.counts.length:Int)=p.states.length:=by simpa using h1
  omega
 ·have:e.counts.all AP=true:=by simpa using h2
  exact VK.1 (List.all_eq_true.1 this x hx)
theorem ahg{p:aO}{e:Elem}(h:VL p e=0):AQ p e:=by
 unfold VL at h
 obtain⟨h1,h⟩:=bz nz h
 obtain⟨h2,h3⟩:=Xp (by simpa using h1)
 obtain⟨a,b,c⟩:=aeI (G7 h (by decide))
 exact⟨O4 h2,h3,a,b,c⟩
theorem yQ{c:List Int}{i d:Int}:(aT c i d).length=c.length:=by simp[aT]
end Go.Proofs.YtkmldgihhaooaaaGreatDoor
namespace Go.Proofs.YtkmldgihhaooaaaGreatDoor
open Go.Ab Go.Proofs
set_option maxRecDepth 100000
theorem ah.tidy{h:Hz}{i n:Nat}{l:List Elem}{K:V->Hz->Prop}{KW:Nat->V->Hz->Prop}(hi:h.get i=some (bT l))(hn:h.get n=none)(hl:l.length<2^30)(hs:dK l)
  (h1:K (.own i) ((i,some (bT (qL l)))::h)) (h2: ∀ m,K (.pK i 0 (qL l).length) ((i,some (.row 35 3 (.elems (qL l)) (List.replicate m zeroV)))::h)):ah Tryz.prog false none 64 [.own i] h n K KW:=by
 refine ah.O5 (ts:=[.own 0]) (S.tH l 1 hl hs) rfl rfl rfl rfl hi hn ?_
 rintro t hp (⟨rfl,rfl⟩|⟨m,rfl,rfl⟩)
 ·exact .inl ⟨.own i,bT (qL l),rfl,rfl,rfl,h1⟩
 ·exact .inl ⟨.pK i 0 _,.row 35 3 (.elems (qL l)) (List.replicate m zeroV),rfl,Fb _ _,rfl,h2 m⟩
theorem ak.pI{h:Hz}{k:Nat}{c:Int}:ak (.dU [.row 3 false (.elems []),.int c]) (.dU [.row k true .nil,.int c]) h:=⟨by
 show T.sub (fun _=>True) h.ay (.dU [.sl 3 false [],.int c]) (.dU [.sl k true [],.int c])
 simp[T.sub,T.dH]⟩
theorem aeG{h:Hz}{j:Nat}{e:Elem}{Z:Nat->Prop}(hz:Z j)(q:h.get j=some (.row 35 3 .nil [.dat (.elem e)])):T.sub Z h.ay (V.row 3 false (.elems [e])).aH (V.own j).aH:=by
 show T.sub Z h.ay (.sl 3 false [gQ e]) (.own j)
 simp only[T.sub]
 exact⟨trivial,hz,rfl,by decide,35,aK q⟩
theorem QC{a b:List Int}(h:mW a b=true)(i:Nat):a.getD i 0<=b.getD i 0:=by
 obtain⟨h1,h2⟩:=mX.1 h
 by_cases hi:i<a.length
 ·exact h2 i hi
 ·rw[show a.getD i 0=0 by simp[List.getD_eq_getElem?_getD,List.getElem?_eq_none (by omega:a.length<=i)],show b.getD i 0=0 by simp[List.getD_eq_getElem?_getD,List.getElem?_eq_none (by omega:b.length<=i)]]
  exact Int.le_refl _
theorem G8{c:List Int}{i d:Int}{j:Nat}:(aT c i d).getD j 0=if j=i.toNat/\j<c.length then c.getD j 0+d else c.getD j 0:=by
 unfold aT
 rw[List.getD_eq_getElem?_getD,List.getElem?_set]
 by_cases h:i.toNat=j
 ·subst h
  by_cases h2:i.toNat<c.length
  ·simp[h2]
  ·simp[h2]
 ·rw[if_neg h,if_neg (fun q=>h q.1.symm),List.getD_eq_getElem?_getD]
theorem acp: ∀ {l:List Rule} {acc:Bool},l.foldl QD acc=false->acc=false/\ ∀ r∈l,r.all=[]:=by
 intro l
 induction l with
 |nil=>intro acc h; exact⟨h,fun r hr=>by cases hr⟩
 |cons x l ih =>
  intro acc h
  obtain⟨h1,h2⟩:=ih h
  simp only[QD,Bool.or_eq_false_iff] at h1
  refine⟨h1.1,fun r hr=>?_⟩
  rcases List.mem_cons.1 hr with rfl|hr
  ·exact len_nil h1.2
  ·exact h2 r hr
theorem Xr{p:aO}(h:(fK p).cover=true):rG p=true/\ ∀ r∈p.rules,r.all=[]:=by
 simp only[fK,Bool.and_eq_true,Bool.not_eq_true'] at h
 exact⟨h.1,(acp h.2).2⟩
theorem Uj{p:aO}{e:Elem}(h1:bn p=0)(h2:(fK p).cover=true)(h3:jc p e=false):VL p e=0:=by
 have:Xq p=0:=by
  unfold Xq
  rw[show(bn p !=0)=false by simp[h1],h2]; rfl
 rw[VL,this,h3]; rfl
structure uU(q:Prop'):Prop where
 start:q.start.length<2^30
 bad:q.bad.length<2^30
 adjacent:q.adjacent.length<2^30
 goal:q.goal.length<2^30
 cnt: ∀ i,(q.bad.getD i default).states.length<2^30
def wG(c:Cnt):Bool:=((c.states.length:Int)==0||decide (c.least<1))||decide (c.least>3)
def ZE(n:Int)(c:Cnt):Int:=bH [jA c.states n,dP (wG c) 1]
def CW(l:List Cnt)(n:Int):Int:=bH (l.map (ZE n))
def Uk(p:aO)(l:List Int):Int:=bif (l.length:Int)==0 then 0 else bif p.topology==1 then 6 else bif (l.length:Int) !=2 then 1 else bH [dA (l.getD 0 0) p.states.length,dA (l.getD 1 0) p.states.length]
def zJ(q:Prop'):Bool:=((q.kind==1)&&decide ((q.goal.length:Int)>0))||(!(q.kind==1)&&(decide ((q.bad.length:Int)>0)||decide ((q.adjacent.length:Int)>0)))
def qM(p:aO)(q:Prop'):Int :=
 let n:Int:=p.states.length
 bif bn p !=0 then bn p else bif !(validName q.name) then 2 else bif !(q.kind==1)&&q.kind !=2 then 1 else bif zJ q then 1 else
 bif jA q.start n !=0 then jA q.start n else bif q.start.any (fun x=> !(MN p.initial x)) then 5 else
 bif !(q.kind==1) then bH [jA q.goal n,dP ((q.goal.length:Int)==0) 1] else
 bH [dP (((q.bad.length:Int)==0)&&((q.adjacent.length:Int)==0)) 1,dP (decide ((q.bad.length:Int)>3)) 4,CW q.bad n,Uk p q.adjacent]
theorem S.mY(l:List Cnt)(n:Int)(f:Bool)(hl:l.length<2^30)(hs: ∀ i,(l.getD i default).states.length<2^30):aj Tryz.prog 112 [.row 3 f (.cnts l),.int n] (.int (CW l n)):=by
 refine aj.of Bd.mY (by simp) rfl rfl ?_
 refine aC.same [1,8,9] (fun i:Nat=>[(10,.int i)]) (fun i=>i<=l.length/\CW l n=bH ((l.drop i).map (ZE n))) (fun i=>l.length-i) 0 rfl (by decide) rfl (fun _=>rfl) ⟨by omega,by simp[CW]⟩ ⟨⟨_,rfl,rfl⟩,trivial⟩ ?_
 refine⟨rfl,?_⟩
 rintro i ⟨hi,hall⟩
 refine⟨fun h3=>?_,fun h3=>?_⟩
 ·have hi':i<l.length:=by simpa using h3
  rw[dn default hi',List.map_cons] at hall
  simp only[bH] at hall
  have hc:=hs i
  refine .mk (by simp only[Rw.rng] at *; omega) ?_
  refine ah.pure (S.eG (l.getD i default).states n false (by omega)) rfl ?_
  repeat(refine VC.mk (by first|exact id|(intro h; rw[h]; rfl)) ?_)
  refine ah.pure (S.bW (wG (l.getD i default)) 1) rfl ?_
  refine ah.pure (S.bM [jA (l.getD i default).states n,dP (wG (l.getD i default)) 1] true (show 2<2^40 by decide)) rfl ?_
  refine⟨fun h4=>?_,fun h4=>?_⟩
  ·conv=>whnf
   refine ak.int ?_
   have h4':ZE n (l.getD i default)≠0:=nz h4
   rw[hall,if_neg h4']; rfl
  ·conv=>whnf
   refine .mk (by simp only[okI] at *; omega) ?_
   conv=>whnf
   have h4':ZE n (l.getD i default)=0:=DJ h4
   rw[if_pos h4'] at hall
   refine⟨i+1,⟨by omega,hall⟩,by omega,⟨⟨_,rfl,rfl⟩,trivial⟩,?_,rfl⟩
   repeat' (first|exact trivial|exact⟨_,rfl,rfl⟩|constructor)
 ·have hi':l.length<=i:=by simpa using h3
  rw[List.drop_eq_nil_of_le hi'] at hall
  exact ak.int (by rw[hall]; rfl)
theorem S.kP(p:aO)(l:List Int)(f:Bool)(_hl:l.length<2^30):aj Tryz.prog 113 [.dat (.iI p),.row 0 f (.ints l)] (.int (Uk p l)):=by
 refine aj.of Bd.kP (by simp) rfl rfl ?_
 refine⟨fun h1=>?_,fun h1=>?_⟩
 ·conv=>whnf
  exact ak.int (by rw[Uk,h1]; rfl)
 refine⟨fun h2=>?_,fun h2=>?_⟩
 ·conv=>whnf
  exact ak.int (by rw[Uk,h1,h2]; rfl)
 refine⟨fun h3=>?_,fun h3=>?_⟩
 ·conv=>whnf
  exact ak.int (by rw[Uk,h1,h2,h3]; rfl)
 have h4:l.length=2:=by
  have:(l.length:Int)=2:=by simpa using h3
  omega
 repeat(refine VC.mk (by simp only[Rw.rng] at *; omega) ?_)
 refine ah.pure (S.bY (l.getD 0 0) p.states.length) rfl ?_
 refine ah.pure (S.bY (l.getD 1 0) p.states.length) rfl ?_
 refine ah.pure (S.bM [dA (l.getD 0 0) p.states.length,dA (l.getD 1 0) p.states.length] true (show 2<2^40 by decide)) rfl ?_
 exact ak.int (by rw[Uk,h1,h2,h3]; rfl)
theorem S.eF(p:aO)(q:Prop')(hp:fE p)(hq:uU q):aj Tryz.prog 68 [.dat (.iI p),.dat (.prop q)] (.int (qM p q)):=by
 have g1:=hp.states; have g5:=hp.initial
 have q1:=hq.start; have q2:=hq.bad; have q3:=hq.adjacent; have q4:=hq.goal
 refine aj.of Bd.eF (by simp) rfl rfl ?_
 refine ah.pure (S.jd p hp) rfl ?_
 refine⟨fun h1=>?_,fun h1=>?_⟩
 ·conv=>whnf
  exact ak.int (by rw[qM,h1]; rfl)
 refine ah.pure (S.gJ q.name) rfl ?_
 refine⟨fun h2=>?_,fun h2=>?_⟩
 ·conv=>whnf
  exact ak.int (by rw[qM,h1,h2]; rfl)
 repeat(refine VC.mk id ?_)
 refine⟨fun h3=>?_,fun h3=>?_⟩
 ·conv=>whnf
  exact ak.int (by rw[qM,h1,h2,h3]; rfl)
 repeat(refine VC.mk id ?_)
 refine⟨fun h4=>?_,fun h4=>?_⟩
 ·conv=>whnf
  refine Fork.mk (fun _=>?_) (fun q=>absurd (q.symm.trans (h4)) Bool.false_ne_true)
  exact ak.int (by rw[qM,h1,h2,h3,show zJ q=true by rw[zJ]; erw [h4]; rfl]; rfl)
 repeat(refine VC.mk (by first|exact id|(intro h; simp_all; done)) ?_)
 refine⟨fun h5=>?_,fun h5=>?_⟩
 ·conv=>whnf
  exact ak.int (by rw[qM,h1,h2,h3,show zJ q=true by rw[zJ]; erw [h5]; simp]; rfl)
 have h45:zJ q=false:=by rw[zJ]; erw [h4,h5]; rfl
 refine ah.pure (S.eG q.start p.states.length false (by omega)) rfl ?_
 refine⟨fun h6=>?_,fun h6=>?_⟩
 ·conv=>whnf
  exact ak.int (by rw[qM,h1,h2,h3,h45,h6]; rfl)
 refine aC.same [2,3,6,7,65,66] (fun i:Nat=>[(67,.int i)]) (fun i=>i<=q.start.length/\(q.start.take i).any (fun x=> !(MN p.initial x))=false) (fun i=>q.start.length-i) 0 rfl (by decide) rfl (fun _=>rfl) ⟨by omega,by simp⟩ ⟨⟨_,rfl,rfl⟩,trivial⟩ ?_
 refine⟨rfl,?_⟩
 rintro i ⟨hi,hall⟩
 refine⟨fun h7=>?_,fun h7=>?_⟩
 ·have hi':i<q.start.length:=by simpa using h7
  refine .mk (by simp only[Rw.rng] at *; omega) ?_
  refine ah.pure (S.slices_Contains_int p.initial (q.start.getD i 0) false (by omega)) rfl ?_
  refine⟨fun h8=>?_,fun h8=>?_⟩
  ·conv=>whnf
   exact ak.int (by rw[qM,h1,h2,h3,h45,h6,jL (d:=0) hi' h8]; rfl)
  ·conv=>whnf
   refine .mk (by simp only[okI] at *; omega) ?_
   refine⟨i+1,⟨by omega,?_⟩,by omega,⟨⟨_,rfl,rfl⟩,trivial⟩,?_,rfl⟩
   ·rw[mV (d:=0) hi' hall]; exact h8
   ·repeat' (first|exact trivial|exact⟨_,rfl,rfl⟩|constructor)
 have hi':q.start.length<=i:=by simpa using h7
 rw[List.take_of_length_le hi'] at hall
 refine⟨fun h8=>?_,fun h8=>?_⟩
 ·conv=>whnf
  refine ah.pure (S.eG q.goal p.states.length false (by omega)) rfl ?_
  refine ah.pure (S.bW ((q.goal.length:Int)==0) 1) rfl ?_
  refine ah.pure (S.bM [jA q.goal p.states.length,dP ((q.goal.length:Int)==0) 1] true (show 2<2^40 by decide)) rfl ?_
  exact ak.int (by rw[qM,h1,h2,h3,h45,h6,hall,h8]; rfl)
 repeat(refine VC.mk id ?_)
 refine ah.pure (S.bW (((q.bad.length:Int)==0)&&((q.adjacent.length:Int)==0)) 1) rfl ?_
 refine ah.pure (S.bW (decide ((q.bad.length:Int)>3)) 4) rfl ?_
 refine ah.pure (S.mY q.bad p.states.length false q2 hq.cnt) rfl ?_
 refine ah.pure (S.kP p q.adjacent false q3) rfl ?_
 refine ah.pure (S.bM [dP (((q.bad.length:Int)==0)&&((q.adjacent.length:Int)==0)) 1,dP (decide ((q.bad.length:Int)>3)) 4,CW q.bad p.states.length,Uk p q.adjacent] true (show 4<2^40 by decide)) rfl ?_
 exact ak.int (by rw[qM,h1,h2,h3,h45,h6,hall,h8]; rfl)
end Go.Proofs.YtkmldgihhaooaaaGreatDoor
namespace Go.Proofs.YtkmldgihhaooaaaGreatDoor
open Go.Ab Go.Proofs
set_option maxRecDepth 100000
theorem ak.acr{h:Hz}{j:Nat}{l:List Int}(q:h.get j=some (jm l)):ak (.row 0 false (.ints l)) (.own j) h:=⟨AY trivial q⟩
theorem ak.agb{h:Hz}{k k':Nat}{r:Rw}(e:r.len=0):ak (.row k false r) (.row k' true .nil) h:=⟨by
 have:r.aU=[]:=List.eq_nil_of_length_eq_zero (by rw[Rw.eH]; exact e)
 show T.sub (fun _=>True) h.ay (.sl k false r.aU) (.sl k' true [])
 rw[this]; simp[T.sub]⟩
theorem S.Nu(l:List Int)(f:Bool)(hl:l.length<2^30):aj Tryz.prog 114 [.row 0 f (.ints l)] (.row 0 false (.ints l)):=by
 refine aj.of Bd.nP (by simp) rfl rfl ?_
 refine ZF.mk (fun hz=>?_) ?_
 ·conv=>whnf
  refine Fork.mk (fun _=>?_) (fun q=>absurd (q.symm.trans ((rfl:true=true))) Bool.false_ne_true)
  exact ak.agb hz
 ·conv=>whnf
  refine Fork.mk (fun q=>absurd (q.symm.trans ((rfl:false=false))).symm Bool.false_ne_true) (fun _=>?_)
  refine .mk (by simp only[kH,kQ,Rw.len]; omega) ?_
  repeat(refine VC.mk (by simp only[kH,kQ,Rw.len]; omega) ?_)
  exact ak.acr rfl
def yE(p:aO)(q:Prop'):List Int:=bif decide ((q.start.length:Int)>0) then q.start else p.initial
def fV(p:aO)(q:Prop'):Int:=bif qM p q !=0 then qM p q else dP (!(fK p).cover||q.kind !=1) 7
theorem J3{p:aO}{q:Prop'}(h:qM p q=0):bn p=0:=by
 unfold qM at h
 obtain⟨h1,_⟩:=bz nz h
 exact DJ h1
theorem Xt{p:aO}{q:Prop'}(h:qM p q=0):fV p q=dP (!(bif bn p !=0 then Fe else fK p).cover||q.kind !=1) 7:=by
 have h2:=J3 h
 rw[fV,show(qM p q !=0)=false by simp[h],show(bn p !=0)=false by simp[h2]]; rfl
theorem S.oG(p:aO)(q:Prop')(hp:fE p)(hq:uU q):aj Tryz.prog 41 [.dat (.iI p),.dat (.prop q)] (.int (fV p q)):=by
 refine aj.of Bd.oG (by simp) rfl rfl ?_
 refine ah.pure (S.eF p q hp hq) rfl ?_
 refine⟨fun h1=>?_,fun h1=>?_⟩
 ·conv=>whnf
  exact ak.int (by rw[fV,h1]; rfl)
 rw[Xt (DJ h1)]
 refine ah.pure (S.je p hp) rfl ?_
 repeat(refine VC.mk (by first|exact id|(intro h; rw[h]; rfl)) ?_)
 refine⟨fun h2=>?_,fun h2=>?_⟩
 ·conv=>whnf
  exact ak.int (by rw[h2]; rfl)
 ·conv=>whnf
  exact ak.int (by rw[h2]; rfl)
theorem S.mZ(p:aO)(q:Prop')(hp:fE p)(hq:uU q)(hv:qM p q=0):aj Tryz.prog 72 [.dat (.iI p),.dat (.prop q)] (.dU [.row 0 false (.ints (yE p q)),.int 0]):=by
 have g5:=hp.initial; have q1:=hq.start
 refine aj.of Bd.mZ (by simp) rfl rfl ?_
 refine ah.pure (S.eF p q hp hq) rfl ?_
 refine Fork.mk (fun q=>absurd (q.symm.trans ((by simp[hv]))).symm Bool.false_ne_true) (fun _=>?_)
 refine⟨fun h2=>?_,fun h2=>?_⟩
 ·conv=>whnf
  refine ah.pure (S.Nu q.start false q1) rfl ?_
  exact ak.eqv (by rw[yE,show decide ((q.start.length:Int)>0)=true from h2]; rfl)
 ·conv=>whnf
  refine ah.pure (S.Nu p.initial false g5) rfl ?_
  exact ak.eqv (by rw[yE,show decide ((q.start.length:Int)>0)=false from h2]; rfl)
def Fg(p:aO)(q:Prop')(e:Elem):Bool:= !(aeH e.counts (yE p q))&&(e.value==0)
theorem Xu{p:aO}{q:Prop'}(hp:fE p)(hq:uU q):(yE p q).length<2^30:=by
 unfold yE
 cases decide ((q.start.length:Int)>0)
 ·exact hp.initial
 ·exact hq.start
theorem S.nM(p:aO)(q:Prop')(e:Elem)(hp:fE p)(hq:uU q)(he:e.counts.length<2^30)(hv:qM p q=0):aj Tryz.prog 45 [.dat (.iI p),.dat (.prop q),.dat (.elem e)] (.bool (Fg p q e)):=by
 have hst:=Xu hp hq
 refine aj.of Bd.nM (by simp) rfl rfl ?_
 refine ah.pure (S.mZ p q hp hq hv) rfl ?_
 refine aC.same [5,7,18,19] (fun i:Nat=>[(20,.int i)]) (fun i=>i<=e.counts.length/\(List.range i).any (fun i=>decide (e.counts.getD i 0>0)&& !(MN (yE p q) i))=false) (fun i=>e.counts.length-i) 0 rfl (by decide) rfl (fun _=>rfl) ⟨by omega,by simp⟩ ⟨⟨_,rfl,rfl⟩,trivial⟩ ?_
 refine⟨rfl,?_⟩
 rintro i ⟨hi,hall⟩
 refine⟨fun h3=>?_,fun h3=>?_⟩
 ·have hi':i<e.counts.length:=by simpa using h3
  repeat(refine VC.mk (by first|exact fun h=>⟨h,h⟩|(simp only[Rw.rng] at *; omega)) ?_)
  refine ah.ig (fun _=>S.slices_Contains_int (yE p q) i false (by omega)) rfl ?_
  repeat(refine VC.mk id ?_)
  refine⟨fun h4=>?_,fun h4=>?_⟩
  ·conv=>whnf
   have:aeH e.counts (yE p q)=true:=CU.2 ⟨i,hi',h4⟩
   exact ak.bool (by rw[Fg,this]; rfl)
  ·conv=>whnf
   refine .mk (by simp only[okI] at *; omega) ?_
   refine⟨i+1,⟨by omega,?_⟩,by omega,⟨⟨_,rfl,rfl⟩,trivial⟩,?_,rfl⟩
   ·rw[List.range_succ,List.any_append,hall]
    simp only[List.any_cons,List.any_nil,Bool.or_false,Bool.false_or]; exact h4
   ·repeat' (first|exact trivial|exact⟨_,rfl,rfl⟩|constructor)
 ·have hi':e.counts.length<=i:=by simpa using h3
  have ei:i=e.counts.length:=Nat.le_antisymm hi hi'
  subst ei
  exact ak.bool (by rw[Fg,show aeH e.counts (yE p q)=false from hall]; rfl)
theorem Ea{p:aO}{q:Prop'}(h:fV p q=0):qM p q=0:=by
 unfold fV at h
 obtain⟨h1,_⟩:=bz nz h
 exact DJ h1
end Go.Proofs.YtkmldgihhaooaaaGreatDoor
