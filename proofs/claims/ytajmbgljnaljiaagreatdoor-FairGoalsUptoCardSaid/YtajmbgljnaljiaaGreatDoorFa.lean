/-
 A part of the proof. No condition.
-/
import Derived.Test.YtajmbgljnaljiaaGreatDoorRb
import Derived.Test.YtajmbgljnaljiaaGreatDoorLg
import Derived.Test.YtajmbgljnaljiaaGreatDoorKa
namespace Go.Proofs.YtajmbgljnaljiaaGreatDoor
open Go.Ab Go.Proofs
set_option maxRecDepth 100000
def Bq(s:Int):List Int->Nat->Int
 |[],_=> -1
 |x::r,i=>bif s==x then(i:Int) else Bq s r (i+1)
theorem WU{s:Int}{l:List Int}:decide (0<=Bq s l 0)=l.any fun x=>s==x:=by
 have: ∀ {l:List Int} {i:Nat},0<=Bq s l i↔(l.any fun x=>s==x)=true:=by
  intro l
  induction l with
  |nil=>intro i; simp[Bq]
  |cons x r ih =>
   intro i
   rw[List.any_cons,Bool.or_eq_true,<- ih (i:=i+1)]
   show(0:Int)<=(bif s==x then(i:Int) else Bq s r (i+1))↔_
   generalize (s==x)=b
   cases b<;>simp
 rw[Bool.eq_iff_iff,decide_eq_true_eq]; exact this
theorem S.slices_Index_int(l:List Int)(s:Int)(f:Bool)(hl:l.length<2^40):au Tryz.prog 108 [.row 0 f (.ints l),.int s] (.int (Bq s l 0)):=by
 refine au.of Bd.kW (by simp) rfl rfl ?_
 conv=>whnf
 refine aP.same [0,1,6,7] (fun i:Nat=>[(8,.int i)]) (fun i=>i<=l.length/\Bq s l 0=Bq s (l.drop i) i) (fun i=>l.length-i) 0 rfl (by decide) rfl (fun _=>rfl) ⟨by omega,by simp⟩ ⟨⟨_,rfl,rfl⟩,trivial⟩ ?_
 conv=>whnf
 refine⟨rfl,?_⟩
 rintro i ⟨hi,hall⟩
 conv=>whnf
 refine⟨fun h3=>?_,fun h3=>?_⟩
 ·have hi':i<l.length:=by simpa using h3
  rw[gQ 0 hi'] at hall
  simp only[Bq] at hall
  conv=>whnf
  refine .mk (by simp only[Rw.rng] at *; first|omega|(simp_all; done)|(simp_all; omega)) ?_
  conv=>whnf
  refine⟨fun h4=>?_,fun h4=>?_⟩
  ·conv=>whnf
   refine aG.int ?_
   have h4':(s==l.getD i 0)=true:=h4
   rw[hall,h4']; rfl
  ·conv=>whnf
   refine .mk (by simp only[okI] at *; first|omega|(simp_all; done)|(simp_all; omega)) ?_
   conv=>whnf
   refine⟨i+1,⟨by omega,?_⟩,by omega,⟨⟨_,rfl,rfl⟩,trivial⟩,?_,rfl⟩
   ·have h4':(s==l.getD i 0)=false:=h4
    rw[hall,h4']; rfl
   ·repeat' (first|exact trivial|exact⟨_,rfl,rfl⟩|constructor)
 ·conv=>whnf
  refine aG.int ?_
  have hi':l.length<=i:=by simpa using h3
  rw[hall,List.drop_eq_nil_of_le hi']; rfl
def Dj(l:List Int)(s:Int):Bool:=l.any fun x=>s==x
theorem S.slices_Contains_int(l:List Int)(s:Int)(f:Bool)(hl:l.length<2^40):au Tryz.prog 74 [.row 0 f (.ints l),.int s] (.bool (Dj l s)):=by
 refine au.of Bd.jH (by simp) rfl rfl ?_
 conv=>whnf
 refine ah.pure (S.slices_Index_int l s f hl) rfl ?_
 conv=>whnf
 exact aG.bool WU.symm
def su(n:Nat)(l:List Int):Prop:= ∀ q∈l,0<=q/\q<n
def JY(c l:List Int):Bool:=(List.range c.length).any fun i=>decide (c.getD i 0>0)&& !(Dj l i)
def zS(ex c:List Int)(i:Nat):Bool:=((ex.length:Int)==0)||(List.range i).any fun j=> !(c.getD j 0==0)&&Dj ex j
def Di(al c:List Int)(i:Nat):Bool:=(List.range i).any fun j=> !(c.getD j 0==0)&&(decide ((al.length:Int)>0)&& !(Dj al j))
def xU(r:Rule)(c:List Int):Bool:= !(Di r.all c c.length)&&zS r.ex c c.length
theorem Fv{ex c:List Int}{i:Nat}:zS ex c (i+1)=(zS ex c i||(!(c.getD i 0==0)&&Dj ex i)):=by
 simp only[zS,List.range_succ,List.any_append,List.any_cons,List.any_nil,Bool.or_false,Bool.or_assoc]
theorem Fq{al c:List Int}{i:Nat}:Di al c (i+1)=(Di al c i||(!(c.getD i 0==0)&&(decide ((al.length:Int)>0)&& !(Dj al i)))):=by
 simp only[Di,List.range_succ,List.any_append,List.any_cons,List.any_nil,Bool.or_false]
theorem MB{al c:List Int}{i:Nat}(hi:i<c.length)(h0:(c.getD i 0==0)=false)(h:(decide ((al.length:Int)>0)&& !(Dj al i))=true):Di al c c.length=true :=
 uZ.2 ⟨i,hi,by rw[h0,h]; rfl⟩
structure zQ(n:Nat)(r:Rule):Prop where
 src:0<=r.fr/\r.fr<n
 dst:0<=r.to/\r.to<n
 YE:0<=r.iw/\r.iw<n
 YF:0<=r.Dc/\r.Dc<n
 rsp:r.kind=3->r.response.length=n/\su n r.response
 exs:su n r.ex
def EJ(c:List Int):Prop:= ∀ x∈c,0<=x/\x<=1048576
def jK(c:List Int)(i d:Int):List Int:=c.set i.toNat (c.getD i.toNat 0+d)
def cO(c:List Int)(i:Int):List Int:=c.set i.toNat (c.getD i.toNat 0-1)
def sF(r:Rule)(c:List Int)(i:Nat):List Int:=(List.range i).foldl (fun a j=>jK a (r.response.getD j 0) (c.getD j 0)) (List.replicate c.length 0)
def iC(r:Rule)(e:Elem):Option Elem :=
 let c1:=cO e.counts r.fr
 let out (c:List Int):Option Elem:=some ⟨bif decide (r.write>=0) then r.write else e.value,jK c r.to 1⟩
 bif (decide (0<=r.read)&&e.value !=r.read||e.counts.getD r.fr.toNat 0==0) then none else
 bif r.kind==1 then(bif !(xU r c1) then none else out c1) else
 bif r.kind==2 then(bif c1.getD r.iw.toNat 0==0 then none else out (jK (cO c1 r.iw) r.Dc 1)) else
 bif r.kind==3 then out (sF r c1 c1.length) else out c1
def kJ(r:Rule)(e:Elem):V:=match iC r e with
 |none=>.fU [.agg [.int 0,.row 0 true .nil],.bool false]
 |some x=>.fU [.dat (.elem x),.bool true]
theorem Pj(r:Rule)(e:Elem):(kJ r e).free=true:=by
 unfold kJ; cases iC r e<;>rfl
def II(r:Rule)(e:Elem):V:=.fU [.dat (.elem ((iC r e).getD ⟨0,[]⟩)),.bool (iC r e).isSome]
theorem TW{Z:Nat->Prop}{h:Hp}(r:Rule)(e:Elem):T.sub Z h (II r e).aF (kJ r e).aF:=by
 unfold II kJ
 cases iC r e with
 |none =>
  show T.sub Z h (.fU [.agg [.int 0,.sl 0 false []],.bool false]) (.fU [.agg [.int 0,.sl 0 true []],.bool false])
  simp[T.sub,T.dG]
 |some x=>exact aB _
theorem au.II{f:FuncId}{r:Rule}{e:Elem}(S:au Tryz.prog f [.dat (.rule r),.dat (.elem e)] (kJ r e)):au Tryz.prog f [.dat (.rule r),.dat (.elem e)] (II r e) :=
 uT.shut S (fun _=>TW r e) rfl
theorem EJ.get{c:List Int}(h:EJ c){i:Nat}(hi:i<c.length):0<=c.getD i 0/\c.getD i 0<=1048576:=by
 rw[show c.getD i 0=c[i] by simp[hi]]; exact h _ (List.getElem_mem hi)
theorem D6{h:Hz}{j:Nat}{Z:Nat->Prop}{l:List Int}(hz:Z j)(q:h.get j=some (.row 3 0 (.ints l) [])):T.sub Z h.aj (V.row 0 false (.ints l)).aF (V.own j).aF:=by
 show T.sub Z h.aj (.sl 0 false (l.map T.int)) (.own j)
 simp only[T.sub]
 refine⟨trivial,hz,?_,by decide,3,?_⟩
 ·rw[eG]; intro t ht; obtain⟨x,_,rfl⟩:=List.mem_map.1 ht; rfl
 ·have:=aO q
  rw[this]; simp[OV.ay,Rw.aS,V.aS]
def okB(b:Int)(c:List Int):Prop:= ∀ x∈c,-b<=x/\x<=b
theorem okB.get{b:Int}{c:List Int}(h:okB b c)(hb:0<=b)(i:Nat): -b<=c.getD i 0/\c.getD i 0<=b:=by
 by_cases hi:i<c.length
 ·rw[show c.getD i 0=c[i] by simp[hi]]; exact h _ (List.getElem_mem hi)
 ·rw[show c.getD i 0=0 by simp[List.getD_eq_getElem?_getD,List.getElem?_eq_none (by omega:c.length<=i)]]; omega
theorem okB.add{b k:Int}{c:List Int}(h:okB b c)(hb:0<=b)(i d:Int)(hd: -k<=d/\d<=k):okB (b+k) (jK c i d):=by
 intro x hx
 have hk:0<=k:=by omega
 rcases List.mem_or_eq_of_mem_set hx with hx|rfl
 ·have:=h x hx; omega
 ·have:=h.get hb i.toNat; omega
theorem okB.dec{b:Int}{c:List Int}(h:okB b c)(hb:0<=b)(i:Int):okB (b+1) (cO c i):=by
 have:=h.add hb i (-1) (k:=1) ⟨by omega,by omega⟩
 rw[show cO c i=jK c i (-1) by simp only[cO,jK]; rfl]; exact this
theorem EJ.b{c:List Int}(h:EJ c):okB 1048576 c:=fun x hx=>by have:=h x hx; omega
theorem aG.D7{h:Hz}{j:Nat}{v:Int}{l:List Int}(q:h.get j=some (.row 3 0 (.ints l) [])):aG (.fU [.dat (.elem ⟨v,l⟩),.bool true]) (.fU [.agg [.int v,.own j],.bool true]) h:=⟨by
 show T.sub (fun _=>True) h.aj (.fU [.agg [.int v,.sl 0 false (l.map T.int)],.bool true]) (.fU [.agg [.int v,.own j],.bool true])
 have:=D6 (Z:=fun _=>True) trivial q
 replace this:T.sub (fun _=>True) h.aj (.sl 0 false (l.map T.int)) (.own j):=this
 simp only[T.sub] at this
 simp only[T.sub,T.dG]
 exact⟨⟨trivial,this,trivial⟩,trivial,trivial⟩⟩
theorem Fh{n:Nat}(h:0<n):(bif isZero (.int n) then some Rw.nil else MN (n:Int).toNat (T.int 0))=some (.ints (List.replicate n 0)):=by
 cases n with
 |zero=>omega
 |succ k=>rfl
theorem uY{r:Rule}{c:List Int}{i:Nat}:sF r c (i+1)=jK (sF r c i) (r.response.getD i 0) (c.getD i 0):=by
 simp only[sF,List.range_succ,List.foldl_append,List.foldl_cons,List.foldl_nil]
theorem uX{r:Rule}{c:List Int}{i:Nat}:(sF r c i).length=c.length:=by
 induction i with
 |zero=>simp[sF]
 |succ i ih=>rw[uY]; simp[jK,ih]
theorem abe{r:Rule}{c:List Int}{b:Int}(h:okB b c)(hb:0<=b)(i:Nat):okB (i*b) (sF r c i):=by
 induction i with
 |zero=>intro x hx; simp[sF] at hx; omega
 |succ i ih =>
  rw[uY]
  have h0:0<=(i:Int)*b:=Int.mul_nonneg (by omega) hb
  have:=ih.add h0 (r.response.getD i 0) (c.getD i 0) (k:=b) (h.get hb i)
  rw[show((i+1:Nat):Int)*b=i*b+b by rw[Int.natCast_add,Int.add_mul]; simp]; exact this
abbrev xK(l:List Int):OV:=.row 3 0 (.ints l) []
end Go.Proofs.YtajmbgljnaljiaaGreatDoor
namespace Go.Proofs.YtajmbgljnaljiaaGreatDoor
open Go.Ab Go.Proofs
set_option maxRecDepth 100000
theorem EP{l:List Int}{s:Int}:Dj l s=true↔s∈l:=by
 simp only[Dj,List.any_eq_true,beq_iff_eq]
 constructor
 ·rintro⟨x,h,rfl⟩; exact h
 ·intro h; exact⟨s,h,rfl⟩
theorem YH{r:Rule}{e:Elem}(hc:EJ e.counts)(h1:(decide (0<=r.read)&&e.value !=r.read||e.counts.getD r.fr.toNat 0==0)=false)(i:Nat):0<=(cO e.counts r.fr).getD i 0:=by
 have h0: ∀ j,0<=e.counts.getD j 0:=fun j=>by
  by_cases hj:j<e.counts.length
  ·exact(hc.get hj).1
  ·rw[show e.counts.getD j 0=0 by simp[List.getD_eq_getElem?_getD,List.getElem?_eq_none (by omega:e.counts.length<=j)]]; omega
 have h2:e.counts.getD r.fr.toNat 0≠0:=by
  rw[Bool.or_eq_false_iff] at h1
  have:=h1.2
  simpa using this
 have h3:=h0 r.fr.toNat
 have h4:=h0 i
 rw[cO,List.getD_eq_getElem?_getD,List.getElem?_set]
 split
 ·split
  ·simp only[Option.getD_some]; omega
  ·simp
 ·rw[<- List.getD_eq_getElem?_getD]; exact h4
theorem cu{ρ:Nat->Nat}{nx pn c n:Nat}{h:Hz}{s:List Nat}{o:OV}(a:(Nat.blt c nx&&(!(Nat.blt c pn)||Nat.beq n c)&&nP n s&&(o.good nx&&o.EL))=true)(b:(h.get n).map OV.ay=some o.ay):Nat.blt c nx=true/\(Nat.blt c pn=true->n=c)/\nP n s=true/\o.good nx=true /\
   ∃ o',h.get n=some o'/\o'.ay.ty=o.ay.ty/\o'.ay.k=o.ay.k/\dL (T.bQ ρ o.ay.l) o'.ay.l:=by
 simp only[Bool.and_eq_true,Bool.or_eq_true,Bool.not_eq_true'] at a
 obtain⟨⟨⟨a1,a2⟩,a3⟩,a4,a5⟩:=a
 obtain⟨o',b1,b2⟩:=Option.map_eq_some_iff.1 b
 exact⟨a1,fun h=>a2.elim (fun q=>by rw[q] at h; cases h) eF,a3,a4,o',b1,by rw[b2],by rw[b2],by rw[OV.wK a5,b2]; exact .refl _⟩
theorem nV{ρ:Nat->Nat}{nx pn c n:Nat}{h:Hz}{s:List Nat}{o o':OV}(a:(Nat.blt c nx&&(!(Nat.blt c pn)||Nat.beq n c)&&nP n s)=true)(g:o.good nx=true)(b:h.get n=some o')(t:o'.ay.ty=o.ay.ty/\o'.ay.k=o.ay.k)(l:dL (T.bQ ρ o.ay.l) o'.ay.l):Nat.blt c nx=true/\(Nat.blt c pn=true->n=c)/\nP n s=true/\o.good nx=true /\
   ∃ o',h.get n=some o'/\o'.ay.ty=o.ay.ty/\o'.ay.k=o.ay.k/\dL (T.bQ ρ o.ay.l) o'.ay.l:=by
 simp only[Bool.and_eq_true,Bool.or_eq_true,Bool.not_eq_true'] at a
 obtain⟨⟨a1,a2⟩,a3⟩:=a
 exact⟨a1,fun h=>a2.elim (fun q=>by rw[q] at h; cases h) eF,a3,g,o',b,t.1,t.2,l⟩
theorem okF{ρ:Nat->Nat}{nx pn c n:Nat}{h:Hz}{s:List Nat}{o o':OV}(q1:Nat.blt c nx=true)(q2:Nat.blt c pn=true->n=c)(q3:nP n s=true)(q4:(o.good nx&&o.EL)=true)(q5:h.get n=some o')
  (q6:o'.ay.ty=o.ay.ty/\o'.ay.k=o.ay.k) (q7:o.ay.l=o'.ay.l):Nat.blt c nx=true/\(Nat.blt c pn=true->n=c)/\nP n s=true/\o.good nx=true /\
   ∃ o',h.get n=some o'/\o'.ay.ty=o.ay.ty/\o'.ay.k=o.ay.k/\dL (T.bQ ρ o.ay.l) o'.ay.l:=by
 rw[Bool.and_eq_true] at q4
 exact⟨q1,q2,q3,q4.1,o',q5,q6.1,q6.2,dL.of_eq ((OV.wK q4.2 ρ).trans q7)⟩
theorem bz{c:Bool}{a b:Int}(ha:c=true->a≠0)(h:(bif c then a else b)=0):c=false/\b=0:=by
 cases c with
 |true=>exact absurd h (ha rfl)
 |false=>exact⟨rfl,h⟩
theorem nz{a:Int}(h:(a !=0)=true):a≠0:=by simpa using h
theorem nD: ∀ {l:List Int},gK l=0-> ∀ x∈l,x=0:=by
 intro l
 induction l with
 |nil=>intro _ x h; cases h
 |cons a r ih =>
  intro h x hx
  simp only[gK] at h
  split at h
  ·rename_i h0
   rcases List.mem_cons.1 hx with rfl|hx
   ·exact h0
   ·exact ih h x hx
  ·rename_i h0; exact absurd h h0
structure JL(p:aH):Prop where
 pos:0<p.states.length
 states:p.states.length<=6
 values:p.values.length<=3
 WG:p.rules.length<=8
 init:lI p.initial p.states.length=0
 start:p.initial≠[]
 rule: ∀ i,i<p.rules.length->jE p i=0
theorem oC{p:aH}(h:dW p=0):JL p:=by
 unfold dW at h
 obtain⟨_,h⟩:=bz (fun _=>by decide) h
 obtain⟨_,h⟩:=bz (fun _=>by decide) h
 obtain⟨h0,h⟩:=bz (fun _=>by decide) h
 obtain⟨h1,h⟩:=bz (fun _=>by decide) h
 obtain⟨_,h⟩:=bz nz h
 obtain⟨_,h⟩:=bz (fun _=>by decide) h
 obtain⟨_,h⟩:=bz (fun _=>by decide) h
 obtain⟨h2,h⟩:=bz nz h
 obtain⟨h3,h⟩:=bz nz h
 have h2':Ja p=0:=by simpa using h2
 have h3':F5 p=0:=by simpa using h3
 have g:=nD h2'
 simp only[wR,Bool.or_eq_false_iff,decide_eq_false_iff_not] at h1
 refine⟨?_,by omega,by omega,by omega,g _ (by simp),?_,fun i hi=>?_⟩
 ·have:(p.states.length:Int)≠0:=by simpa using h0
  omega
 ·intro e
  have:=g (iq ((p.initial.length:Int)==0) 1) (by simp)
  rw[e] at this; exact absurd this (by decide)
 ·exact nD h3' _ (List.mem_map.2 ⟨i,by simpa using hi,rfl⟩)
theorem rD{x:Int}{n:Nat}(h:yc x n=false):0<=x/\x<n:=by
 simp only[yc,Bool.or_eq_false_iff,decide_eq_false_iff_not] at h; omega
theorem Ac{x:Int}{n:Nat}(h:fA x n=0):0<=x/\x<n:=by
 refine rD ?_
 unfold fA iq at h
 cases hb:yc x n with
 |false=>rfl
 |true=>rw[hb] at h; exact absurd h (by decide)
theorem yX{l:List Int}{n:Nat}(h:lI l n=0):su n l:=by
 unfold lI at h
 obtain⟨h,_⟩:=bz (fun _=>by decide) h
 rw[List.any_eq_false] at h
 exact fun q hq=>rD (by simpa using h q hq)
theorem NK{n:Nat}: ∀ {l:List Int},Ad l n=0->su n l:=by
 intro l
 induction l with
 |nil=>intro _ q h; cases h
 |cons x r ih =>
  intro h q hq
  simp only[Ad] at h
  split at h
  ·rename_i h0
   rcases List.mem_cons.1 hq with rfl|hq
   ·exact Ac h0
   ·exact ih h q hq
  ·rename_i h0; exact absurd h h0
theorem Ir{k:Int}(h:xF k 1=true):k=1\/k=2\/k=3:=by
 unfold xF at h
 cases h1:(k==1) with
 |true=>exact .inl (beq_iff_eq.1 h1)
 |false =>
  cases h2:(k==2) with
  |true=>exact .inr (.inl (beq_iff_eq.1 h2))
  |false =>
   cases h3:(k==3) with
   |true=>exact .inr (.inr (beq_iff_eq.1 h3))
   |false=>rw[h1,h2,h3] at h; cases hb:(k==4||k==5)<;>rw[hb] at h<;>cases h
structure ac9(n:Nat)(p:aH)(r:Rule):Prop where
 place:zQ n r
 kind:r.kind=1\/r.kind=2\/r.kind=3
 ae6:su n r.all
 ex1:r.kind≠1->r.ex=[]/\r.all=[]
 rd:yc r.read p.values.length=false\/r.read= -1
 wr:yc r.write p.values.length=false\/r.write= -1
theorem pJ{p:aH}{v:Int}(h:jI p v=0):yc v p.values.length=false\/v= -1:=by
 unfold jI iq at h
 have h': ¬ (v< -1\/v>=(p.values.length:Int)):=by
  intro q
  have:(decide (v< -1)||decide (v>=(p.values.length:Int)))=true:=by simpa using q
  rw[this] at h; exact absurd h (by decide)
 by_cases e:v= -1
 ·exact .inr e
 ·left
  simp only[yc,Bool.or_eq_false_iff,decide_eq_false_iff_not]; omega
theorem aaL{p:aH}{i:Nat}(hv:JL p)(ht:p.topology=1)(hi:i<p.rules.length):ac9 p.states.length p (p.rules.getD i default):=by
 have h:=hv.rule i hi
 have hpos:=hv.pos
 simp only[jE,oz] at h
 generalize (p.rules.getD i default)=r at h ⊢
 obtain⟨_,h⟩:=bz (fun _=>by decide) h
 obtain⟨hb,h⟩:=bz (fun _=>by decide) h
 obtain⟨he,h⟩:=bz nz h
 rw[Zk,Bool.or_eq_false_iff] at he
 rw[ht,Bool.or_eq_false_iff] at hb
 have hk:=Ir (show xF r.kind 1=true by simpa using hb.1)
 have hu:uh r 1=false:=by rw[xR (by omega)]; exact hb.2
 have hun:=TY hu
 have hpf:r.kind≠2->r.kind≠5->r.iw=0/\r.Dc=0:=by
  intro k1 k2
  simp only[uh,JM,Bool.or_eq_false_iff] at hu
  have h3:=hu.2.2.1
  simp only[beq_eq_false_iff_ne.2 k1,beq_eq_false_iff_ne.2 k2,Bool.not_false,Bool.true_and,Bool.or_eq_false_iff] at h3
  exact⟨Ua h3.1,Ua h3.2⟩
 have h00:(0:Int)<=0/\(0:Int)<p.states.length:=⟨by omega,by omega⟩
 have pn:su p.states.length []:=fun q hq=>by cases hq
 rcases hk with e|e|e
 ·rw[e] at h
  have g:=nD h
  have⟨a,b⟩:=hpf (by omega) (by omega)
  exact⟨⟨rD he.1,rD he.2,by rw[a]; exact h00,by rw[b]; exact h00,fun q=>by omega,yX (g (lI r.ex p.states.length) (by simp))⟩,.inl e,yX (g (lI r.all p.states.length) (by simp)),fun q=>absurd e q,pJ (g (jI p r.read) (by simp)),pJ (g (jI p r.write) (by simp))⟩
 ·rw[e] at h
  have g:=nD h
  obtain⟨_,u1,u2,_⟩:=hun.1 (by omega)
  exact⟨⟨rD he.1,rD he.2,Ac (g (fA r.iw p.states.length) (by simp)),Ac (g (fA r.Dc p.states.length) (by simp)),fun q=>by omega,by rw[u1]; exact pn⟩,.inr (.inl e),by rw[u2]; exact pn,fun _=>⟨u1,u2⟩,pJ (g (jI p r.read) (by simp)),pJ (g (jI p r.write) (by simp))⟩
 ·rw[e] at h
  have g:=nD h
  have⟨a,b⟩:=hpf (by omega) (by omega)
  obtain⟨_,u1,u2,_⟩:=hun.1 (by omega)
  have hr:=g (Eb r.response p.states.length) (by simp)
  unfold Eb at hr
  obtain⟨r1,r2⟩:=bz (fun _=>by decide) hr
  exact⟨⟨rD he.1,rD he.2,by rw[a]; exact h00,by rw[b]; exact h00,fun _=>⟨by have q9:(r.response.length:Int)=p.states.length:=(by simpa using r1); omega,NK r2⟩,by rw[u1]; exact pn⟩,.inr (.inr e),by rw[u2]; exact pn,fun _=>⟨u1,u2⟩,pJ (g (jI p r.read) (by simp)),pJ (g (jI p r.write) (by simp))⟩
theorem Iu{p:aH}(h:Ae p=true):p.topology=1:=by
 simp only[Ae,Bool.and_eq_true,beq_iff_eq] at h; exact h.1.1.1
structure ae7(p:aH)(e:Elem):Prop where
 valid:JL p
 plain:Ae p=true
 len:e.counts.length=p.states.length
 nums:EJ e.counts
 val:0<=e.value/\e.value<max 1 (p.values.length:Int)
theorem iV{p:aH}(h:JJ p=0):dW p=0/\Ae p=true:=by
 unfold JJ at h
 obtain⟨h1,h⟩:=bz nz h
 obtain⟨h2,_⟩:=bz (fun _=>by decide) h
 refine⟨by simpa using h1,?_⟩
 simp only[qp] at h2
 cases hp:Ae p with
 |true=>rfl
 |false=>rw[hp] at h2; simp at h2
theorem TT{b:Bool}{n:Int}(h:iq b n=0)(hn:n≠0):b=false:=by
 cases b with
 |false=>rfl
 |true=>exact absurd h hn
theorem QZ{x:Int}:Iy x=true↔0<=x/\x<=1048576:=by simp[Iy]
theorem abd{p:aH}{e:Elem}(h:JK p e=false):e.counts.length=p.states.length/\EJ e.counts/\0<=e.value/\e.value<max 1 (p.values.length:Int):=by
 simp only[JK,Bool.or_eq_false_iff,decide_eq_false_iff_not] at h
 obtain⟨⟨⟨h1,h2⟩,h3⟩,h4⟩:=h
 refine⟨?_,fun x hx=>?_,by omega,by omega⟩
 ·have:(e.counts.length:Int)=p.states.length:=by simpa using h1
  omega
 ·have:e.counts.all Iy=true:=by simpa using h2
  exact QZ.1 (List.all_eq_true.1 this x hx)
theorem gI{α:Type}{c:Bool}{a b:Option α}{x:α}(h:(bif c then a else b)=some x):a=some x\/b=some x:=by
 cases c with
 |true=>exact .inl h
 |false=>exact .inr h
theorem Dh{c:List Int}{i d:Int}:(jK c i d).length=c.length:=by simp[jK]
theorem lU{c:List Int}{i:Int}:(cO c i).length=c.length:=by simp[cO]
theorem yS{r:Rule}{e x:Elem}(h:iC r e=some x):x.counts.length=e.counts.length:=by
 simp only[iC] at h
 have out: ∀ {c:List Int} {v:Int},c.length=e.counts.length->some (⟨v,jK c r.to 1⟩:Elem)=some x->x.counts.length=e.counts.length:=by
  intro c v hc h; cases h; rw[Dh,hc]
 rcases gI h with h|h
 ·cases h
 rcases gI h with h|h
 ·rcases gI h with h|h
  ·cases h
  ·exact out lU h
 rcases gI h with h|h
 ·rcases gI h with h|h
  ·cases h
  ·exact out (by rw[Dh,lU,lU]) h
 rcases gI h with h|h
 ·exact out (by rw[uX,lU]) h
 ·exact out lU h
end Go.Proofs.YtajmbgljnaljiaaGreatDoor
namespace Go.Proofs.YtajmbgljnaljiaaGreatDoor
open Go.Ab Go.Proofs
set_option maxRecDepth 100000
theorem aG.aaM{h:Hz}{k:Nat}{c:Int}:aG (.fU [.row 3 false (.elems []),.int c]) (.fU [.row k true .nil,.int c]) h:=⟨by
 show T.sub (fun _=>True) h.aj (.fU [.sl 3 false [],.int c]) (.fU [.sl k true [],.int c])
 simp[T.sub,T.dG]⟩
structure jO(q:Prop'):Prop where
 start:q.start.length<2^30
 bad:q.bad.length<2^30
 adjacent:q.adjacent.length<2^30
 goal:q.goal.length<2^30
 cnt: ∀ i,(q.bad.getD i default).states.length<2^30
def F6(c:Cnt):Bool:=((c.states.length:Int)==0||decide (c.least<1))||decide (c.least>3)
def Zl(n:Int)(c:Cnt):Int:=gK [lI c.states n,iq (F6 c) 1]
def Bv(l:List Cnt)(n:Int):Int:=gK (l.map (Zl n))
def PO(p:aH)(l:List Int):Int:=bif (l.length:Int)==0 then 0 else bif p.topology==1 then 6 else bif (l.length:Int) !=2 then 1 else gK [fA (l.getD 0 0) p.states.length,fA (l.getD 1 0) p.states.length]
def qy(q:Prop'):Bool:=((q.kind==1)&&decide ((q.goal.length:Int)>0))||(!(q.kind==1)&&(decide ((q.bad.length:Int)>0)||decide ((q.adjacent.length:Int)>0)))
def kY(p:aH)(q:Prop'):Int :=
 let n:Int:=p.states.length
 bif dW p !=0 then dW p else bif !(validName q.name) then 2 else bif !(q.kind==1)&&q.kind !=2 then 1 else bif qy q then 1 else
 bif lI q.start n !=0 then lI q.start n else bif q.start.any (fun x=> !(Dj p.initial x)) then 5 else
 bif !(q.kind==1) then gK [lI q.goal n,iq ((q.goal.length:Int)==0) 1] else
 gK [iq (((q.bad.length:Int)==0)&&((q.adjacent.length:Int)==0)) 1,iq (decide ((q.bad.length:Int)>3)) 4,Bv q.bad n,PO p q.adjacent]
theorem S.kP(l:List Cnt)(n:Int)(f:Bool)(hl:l.length<2^30)(hs: ∀ i,(l.getD i default).states.length<2^30):au Tryz.prog 104 [.row 3 f (.cnts l),.int n] (.int (Bv l n)):=by
 refine au.of Bd.kP (by simp) rfl rfl ?_
 conv=>whnf
 refine aP.same [1,8,9] (fun i:Nat=>[(10,.int i)]) (fun i=>i<=l.length/\Bv l n=gK ((l.drop i).map (Zl n))) (fun i=>l.length-i) 0 rfl (by decide) rfl (fun _=>rfl) ⟨by omega,by simp[Bv]⟩ ⟨⟨_,rfl,rfl⟩,trivial⟩ ?_
 conv=>whnf
 refine⟨rfl,?_⟩
 rintro i ⟨hi,hall⟩
 conv=>whnf
 refine⟨fun h3=>?_,fun h3=>?_⟩
 ·have hi':i<l.length:=by simpa using h3
  rw[gQ default hi',List.map_cons] at hall
  simp only[gK] at hall
  have hc:=hs i
  conv=>whnf
  refine .mk (by simp only[Rw.rng] at *; omega) ?_
  conv=>whnf
  refine ah.pure (S.dN (l.getD i default).states n false (by omega)) rfl ?_
  conv=>whnf
  repeat(refine VC.mk (by first|exact id|(intro h; rw[h]; rfl)) ?_; conv=>whnf)
  refine ah.pure (S.bP (F6 (l.getD i default)) 1) rfl ?_
  conv=>whnf
  refine ah.pure (S.bH [lI (l.getD i default).states n,iq (F6 (l.getD i default)) 1] true (show 2<2^40 by decide)) rfl ?_
  conv=>whnf
  refine⟨fun h4=>?_,fun h4=>?_⟩
  ·conv=>whnf
   refine aG.int ?_
   have h4':Zl n (l.getD i default)≠0:=nz h4
   rw[hall,if_neg h4']; rfl
  ·conv=>whnf
   refine .mk (by simp only[okI] at *; omega) ?_
   conv=>whnf
   have h4':Zl n (l.getD i default)=0:=eqz h4
   rw[if_pos h4'] at hall
   refine⟨i+1,⟨by omega,hall⟩,by omega,⟨⟨_,rfl,rfl⟩,trivial⟩,?_,rfl⟩
   repeat' (first|exact trivial|exact⟨_,rfl,rfl⟩|constructor)
 ·have hi':l.length<=i:=by simpa using h3
  rw[List.drop_eq_nil_of_le hi'] at hall
  conv=>whnf
  exact aG.int (by rw[hall]; rfl)
theorem S.jF(p:aH)(l:List Int)(f:Bool)(_hl:l.length<2^30):au Tryz.prog 105 [.dat (.mJ p),.row 0 f (.ints l)] (.int (PO p l)):=by
 refine au.of Bd.jF (by simp) rfl rfl ?_
 conv=>whnf
 refine⟨fun h1=>?_,fun h1=>?_⟩
 ·conv=>whnf
  exact aG.int (by rw[PO,h1]; rfl)
 conv=>whnf
 refine⟨fun h2=>?_,fun h2=>?_⟩
 ·conv=>whnf
  exact aG.int (by rw[PO,h1,h2]; rfl)
 conv=>whnf
 refine⟨fun h3=>?_,fun h3=>?_⟩
 ·conv=>whnf
  exact aG.int (by rw[PO,h1,h2,h3]; rfl)
 have h4:l.length=2:=by
  have:(l.length:Int)=2:=by simpa using h3
  omega
 conv=>whnf
 repeat(refine VC.mk (by simp only[Rw.rng] at *; omega) ?_; conv=>whnf)
 refine ah.pure (S.bV (l.getD 0 0) p.states.length) rfl ?_
 conv=>whnf
 refine ah.pure (S.bV (l.getD 1 0) p.states.length) rfl ?_
 conv=>whnf
 refine ah.pure (S.bH [fA (l.getD 0 0) p.states.length,fA (l.getD 1 0) p.states.length] true (show 2<2^40 by decide)) rfl ?_
 conv=>whnf
 exact aG.int (by rw[PO,h1,h2,h3]; rfl)
theorem S.dK(p:aH)(q:Prop')(hp:gq p)(hq:jO q):au Tryz.prog 68 [.dat (.mJ p),.dat (.prop q)] (.int (kY p q)):=by
 have g1:=hp.states; have g5:=hp.initial
 have q1:=hq.start; have q2:=hq.bad; have q3:=hq.adjacent; have q4:=hq.goal
 refine au.of Bd.dK (by simp) rfl rfl ?_
 conv=>whnf
 refine ah.pure (S.iE p hp) rfl ?_
 conv=>whnf
 refine⟨fun h1=>?_,fun h1=>?_⟩
 ·conv=>whnf
  exact aG.int (by rw[kY,h1]; rfl)
 conv=>whnf
 refine ah.pure (S.fH q.name) rfl ?_
 conv=>whnf
 refine⟨fun h2=>?_,fun h2=>?_⟩
 ·conv=>whnf
  exact aG.int (by rw[kY,h1,h2]; rfl)
 conv=>whnf
 repeat(refine VC.mk id ?_; conv=>whnf)
 refine⟨fun h3=>?_,fun h3=>?_⟩
 ·conv=>whnf
  exact aG.int (by rw[kY,h1,h2,h3]; rfl)
 conv=>whnf
 repeat(refine VC.mk id ?_; conv=>whnf)
 refine⟨fun h4=>?_,fun h4=>?_⟩
 ·conv=>whnf
  refine Fork.mk (fun _=>?_) (fun q=>absurd (q.symm.trans (h4)) Bool.false_ne_true)
  conv=>whnf
  exact aG.int (by rw[kY,h1,h2,h3,show qy q=true by rw[qy]; erw [h4]; rfl]; rfl)
 conv=>whnf
 repeat(refine VC.mk (by first|exact id|(intro h; simp_all; done)) ?_; conv=>whnf)
 refine⟨fun h5=>?_,fun h5=>?_⟩
 ·conv=>whnf
  exact aG.int (by rw[kY,h1,h2,h3,show qy q=true by rw[qy]; erw [h5]; simp]; rfl)
 have h45:qy q=false:=by rw[qy]; erw [h4,h5]; rfl
 conv=>whnf
 refine ah.pure (S.dN q.start p.states.length false (by omega)) rfl ?_
 conv=>whnf
 refine⟨fun h6=>?_,fun h6=>?_⟩
 ·conv=>whnf
  exact aG.int (by rw[kY,h1,h2,h3,h45,h6]; rfl)
 conv=>whnf
 refine aP.same [2,3,6,7,65,66] (fun i:Nat=>[(67,.int i)]) (fun i=>i<=q.start.length/\(q.start.take i).any (fun x=> !(Dj p.initial x))=false) (fun i=>q.start.length-i) 0 rfl (by decide) rfl (fun _=>rfl) ⟨by omega,by simp⟩ ⟨⟨_,rfl,rfl⟩,trivial⟩ ?_
 conv=>whnf
 refine⟨rfl,?_⟩
 rintro i ⟨hi,hall⟩
 conv=>whnf
 refine⟨fun h7=>?_,fun h7=>?_⟩
 ·have hi':i<q.start.length:=by simpa using h7
  conv=>whnf
  refine .mk (by simp only[Rw.rng] at *; omega) ?_
  conv=>whnf
  refine ah.pure (S.slices_Contains_int p.initial (q.start.getD i 0) false (by omega)) rfl ?_
  conv=>whnf
  refine⟨fun h8=>?_,fun h8=>?_⟩
  ·conv=>whnf
   exact aG.int (by rw[kY,h1,h2,h3,h45,h6,sH (d:=0) hi' h8]; rfl)
  ·conv=>whnf
   refine .mk (by simp only[okI] at *; omega) ?_
   conv=>whnf
   refine⟨i+1,⟨by omega,?_⟩,by omega,⟨⟨_,rfl,rfl⟩,trivial⟩,?_,rfl⟩
   ·rw[xY (d:=0) hi' hall]; exact h8
   ·repeat' (first|exact trivial|exact⟨_,rfl,rfl⟩|constructor)
 have hi':q.start.length<=i:=by simpa using h7
 rw[List.take_of_length_le hi'] at hall
 conv=>whnf
 refine⟨fun h8=>?_,fun h8=>?_⟩
 ·conv=>whnf
  refine ah.pure (S.dN q.goal p.states.length false (by omega)) rfl ?_
  conv=>whnf
  refine ah.pure (S.bP ((q.goal.length:Int)==0) 1) rfl ?_
  conv=>whnf
  refine ah.pure (S.bH [lI q.goal p.states.length,iq ((q.goal.length:Int)==0) 1] true (show 2<2^40 by decide)) rfl ?_
  conv=>whnf
  exact aG.int (by rw[kY,h1,h2,h3,h45,h6,hall,h8]; rfl)
 conv=>whnf
 repeat(refine VC.mk id ?_; conv=>whnf)
 refine ah.pure (S.bP (((q.bad.length:Int)==0)&&((q.adjacent.length:Int)==0)) 1) rfl ?_
 conv=>whnf
 refine ah.pure (S.bP (decide ((q.bad.length:Int)>3)) 4) rfl ?_
 conv=>whnf
 refine ah.pure (S.kP q.bad p.states.length false q2 hq.cnt) rfl ?_
 conv=>whnf
 refine ah.pure (S.jF p q.adjacent false q3) rfl ?_
 conv=>whnf
 refine ah.pure (S.bH [iq (((q.bad.length:Int)==0)&&((q.adjacent.length:Int)==0)) 1,iq (decide ((q.bad.length:Int)>3)) 4,Bv q.bad p.states.length,PO p q.adjacent] true (show 4<2^40 by decide)) rfl ?_
 conv=>whnf
 exact aG.int (by rw[kY,h1,h2,h3,h45,h6,hall,h8]; rfl)
end Go.Proofs.YtajmbgljnaljiaaGreatDoor
namespace Go.Proofs.YtajmbgljnaljiaaGreatDoor
open Go.Ab Go.Proofs
set_option maxRecDepth 100000
theorem aG.aei{h:Hz}{j:Nat}{l:List Int}(q:h.get j=some (xK l)):aG (.row 0 false (.ints l)) (.own j) h:=⟨D6 trivial q⟩
theorem aG.zx{h:Hz}{k k':Nat}{r:Rw}(e:r.len=0):aG (.row k false r) (.row k' true .nil) h:=⟨by
 have:r.aS=[]:=List.eq_nil_of_length_eq_zero (by rw[Rw.dF]; exact e)
 show T.sub (fun _=>True) h.aj (.sl k false r.aS) (.sl k' true [])
 rw[this]; simp[T.sub]⟩
theorem S.Jb(l:List Int)(f:Bool)(hl:l.length<2^30):au Tryz.prog 92 [.row 0 f (.ints l)] (.row 0 false (.ints l)):=by
 refine au.of Bd.jo (by simp) rfl rfl ?_
 conv=>whnf
 refine VF.mk (fun hz=>?_) ?_
 ·conv=>whnf
  refine Fork.mk (fun _=>?_) (fun q=>absurd (q.symm.trans ((rfl:true=true))) Bool.false_ne_true)
  conv=>whnf
  exact aG.zx hz
 ·conv=>whnf
  refine Fork.mk (fun q=>absurd (q.symm.trans ((rfl:false=false))).symm Bool.false_ne_true) (fun _=>?_)
  conv=>whnf
  refine .mk (by simp only[o8,qF,Rw.len]; omega) ?_
  conv=>whnf
  repeat(refine VC.mk (by simp only[o8,qF,Rw.len]; omega) ?_; conv=>whnf)
  exact aG.aei rfl
def pz(p:aH)(q:Prop'):List Int:=bif decide ((q.start.length:Int)>0) then q.start else p.initial
theorem FD{p:aH}{q:Prop'}(h:kY p q=0):dW p=0:=by
 unfold kY at h
 obtain⟨h1,_⟩:=bz nz h
 exact eqz h1
theorem S.kK(p:aH)(q:Prop')(hp:gq p)(hq:jO q)(hv:kY p q=0):au Tryz.prog 75 [.dat (.mJ p),.dat (.prop q)] (.fU [.row 0 false (.ints (pz p q)),.int 0]):=by
 have g5:=hp.initial; have q1:=hq.start
 refine au.of Bd.kK (by simp) rfl rfl ?_
 conv=>whnf
 refine ah.pure (S.dK p q hp hq) rfl ?_
 conv=>whnf
 refine Fork.mk (fun q=>absurd (q.symm.trans ((by simp[hv]))).symm Bool.false_ne_true) (fun _=>?_)
 conv=>whnf
 refine⟨fun h2=>?_,fun h2=>?_⟩
 ·conv=>whnf
  refine ah.pure (S.Jb q.start false q1) rfl ?_
  conv=>whnf
  exact aG.eqv (by rw[pz,show decide ((q.start.length:Int)>0)=true from h2]; rfl)
 ·conv=>whnf
  refine ah.pure (S.Jb p.initial false g5) rfl ?_
  conv=>whnf
  exact aG.eqv (by rw[pz,show decide ((q.start.length:Int)>0)=false from h2]; rfl)
theorem Tn{p:aH}{q:Prop'}(hp:gq p)(hq:jO q):(pz p q).length<2^30:=by
 unfold pz
 cases decide ((q.start.length:Int)>0)
 ·exact hp.initial
 ·exact hq.start
end Go.Proofs.YtajmbgljnaljiaaGreatDoor
