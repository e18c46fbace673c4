/-
 A part of the proof. No condition.
-/
import Derived.Test.YtifbibbicplneaaGreatDoorRb
import Derived.Test.YtifbibbicplneaaGreatDoorLf
namespace Go.Proofs.YtifbibbicplneaaGreatDoor
open Go.Ab Go.Proofs
set_option maxRecDepth 100000
def DT(s:Int):List Int->Nat->Int
 |[],_=> -1
 |x::r,i=>bif s==x then(i:Int) else DT s r (i+1)
theorem XE{s:Int}{l:List Int}:decide (0<=DT s l 0)=l.any fun x=>s==x:=by
 have: ∀ {l:List Int} {i:Nat},0<=DT s l i↔(l.any fun x=>s==x)=true:=by
  intro l
  induction l with
  |nil=>intro i; simp[DT]
  |cons x r ih =>
   intro i
   rw[List.any_cons,Bool.or_eq_true,<- ih (i:=i+1)]
   show(0:Int)<=(bif s==x then(i:Int) else DT s r (i+1))↔_
   generalize (s==x)=b
   cases b<;>simp
 rw[Bool.eq_iff_iff,decide_eq_true_eq]; exact this
theorem S.slices_Index_int(l:List Int)(s:Int)(f:Bool)(hl:l.length<2^40):aj Tryz.prog 143 [.row 0 f (.ints l),.int s] (.int (DT s l 0)):=by
 refine aj.of Bd.mY (by simp) rfl rfl ?_
 conv=>whnf
 refine aF.same [0,1,6,7] (fun i:Nat=>[(8,.int i)]) (fun i=>i<=l.length/\DT s l 0=DT s (l.drop i) i) (fun i=>l.length-i) 0 rfl (by decide) rfl (fun _=>rfl) ⟨by omega,by simp⟩ ⟨⟨_,rfl,rfl⟩,trivial⟩ ?_
 conv=>whnf
 refine⟨rfl,?_⟩
 rintro i ⟨hi,hall⟩
 conv=>whnf
 refine⟨fun h3=>?_,fun h3=>?_⟩
 ·have hi':i<l.length:=by simpa using h3
  rw[bC 0 hi'] at hall
  simp only[DT] at hall
  conv=>whnf
  refine .mk (by simp only[Rw.rng] at *; first|omega|(simp_all; done)|(simp_all; omega)) ?_
  conv=>whnf
  refine⟨fun h4=>?_,fun h4=>?_⟩
  ·conv=>whnf
   refine ak.int ?_
   have h4':(s==l.getD i 0)=true:=h4
   rw[hall,h4']; rfl
  ·conv=>whnf
   refine .mk (by simp only[okI] at *; first|omega|(simp_all; done)|(simp_all; omega)) ?_
   conv=>whnf
   refine⟨i+1,⟨by omega,?_⟩,by omega,⟨⟨_,rfl,rfl⟩,trivial⟩,?_,rfl⟩
   ·have h4':(s==l.getD i 0)=false:=h4
    rw[hall,h4']; rfl
   ·repeat' (first|exact trivial|exact⟨_,rfl,rfl⟩|constructor)
 ·conv=>whnf
  refine ak.int ?_
  have hi':l.length<=i:=by simpa using h3
  rw[hall,List.drop_eq_nil_of_le hi']; rfl
def GZ(l:List Int)(s:Int):Bool:=l.any fun x=>s==x
theorem S.slices_Contains_int(l:List Int)(s:Int)(f:Bool)(hl:l.length<2^40):aj Tryz.prog 100 [.row 0 f (.ints l),.int s] (.bool (GZ l s)):=by
 refine aj.of Bd.kN (by simp) rfl rfl ?_
 conv=>whnf
 refine ah.pure (S.slices_Index_int l s f hl) rfl ?_
 conv=>whnf
 exact ak.bool XE.symm
theorem S.Ig(l:List Int)(s:Int)(f:Bool)(hl:l.length<2^40):aj Tryz.prog 169 [.row 0 f (.ints l),.int s] (.bool (GZ l s)):=by
 refine aj.of Bd.Ig (by simp) rfl rfl ?_
 conv=>whnf
 refine aF.same [0,1] (fun i:Nat=>[(5,.int i)]) (fun i=>i<=l.length/\(l.take i).any (fun x=>s==x)=false) (fun i=>l.length-i) 0 rfl (by decide) rfl (fun _=>rfl) ⟨by omega,by simp⟩ ⟨⟨_,rfl,rfl⟩,trivial⟩ ?_
 conv=>whnf
 refine⟨rfl,?_⟩
 rintro i ⟨hi,hall⟩
 conv=>whnf
 refine⟨fun h3=>?_,fun h3=>?_⟩
 ·have hi':i<l.length:=by simpa using h3
  conv=>whnf
  refine .mk (by simp only[Rw.rng] at *; first|omega|(simp_all; done)|(simp_all; omega)) ?_
  conv=>whnf
  refine⟨fun h4=>?_,fun h4=>?_⟩
  ·have h4':(s==l.getD i 0)=true:=by rw[show(s==l.getD i 0)=(l.getD i 0==s) from Bool.beq_comm]; exact h4
   conv=>whnf
   exact ak.bool (fQ (d:=0) hi' h4')
  ·have h4':(s==l.getD i 0)=false:=by rw[show(s==l.getD i 0)=(l.getD i 0==s) from Bool.beq_comm]; exact h4
   conv=>whnf
   refine .mk (by simp only[okI] at *; first|omega|(simp_all; done)|(simp_all; omega)) ?_
   conv=>whnf
   refine⟨i+1,⟨by omega,?_⟩,by omega,⟨⟨_,rfl,rfl⟩,trivial⟩,?_,rfl⟩
   ·rw[jl (d:=0) hi' hall]; exact h4'
   ·repeat' (first|exact trivial|exact⟨_,rfl,rfl⟩|constructor)
 ·have hi':l.length<=i:=by simpa using h3
  rw[List.take_of_length_le hi'] at hall
  conv=>whnf
  exact ak.bool hall
def DU(c l:List Int):Bool:=l.any fun q=>decide (c.getD q.toNat 0>0)
def oM(n:Nat)(l:List Int):Prop:= ∀ q∈l,0<=q/\q<n
theorem S.zM(c l:List Int)(f g:Bool)(_hc:c.length<2^40)(hl:l.length<2^40)(hp:oM c.length l):aj Tryz.prog 149 [.row 0 f (.ints c),.row 0 g (.ints l)] (.bool (DU c l)):=by
 refine aj.of Bd.zM (by simp) rfl rfl ?_
 conv=>whnf
 refine aF.same [0,1] (fun i:Nat=>[(5,.int i)]) (fun i=>i<=l.length/\(l.take i).any (fun q=>decide (c.getD q.toNat 0>0))=false) (fun i=>l.length-i) 0 rfl (by decide) rfl (fun _=>rfl) ⟨by omega,by simp⟩ ⟨⟨_,rfl,rfl⟩,trivial⟩ ?_
 conv=>whnf
 refine⟨rfl,?_⟩
 rintro i ⟨hi,hall⟩
 conv=>whnf
 refine⟨fun h3=>?_,fun h3=>?_⟩
 ·have hi':i<l.length:=by simpa using h3
  have hq:0<=l.getD i 0/\l.getD i 0<c.length:=by
   rw[show l.getD i 0=l[i] by simp[hi']]; exact hp _ (List.getElem_mem hi')
  conv=>whnf
  repeat(refine VC.mk (by simp only[Rw.rng] at *; first|omega|(simp_all; done)|(simp_all; omega)) ?_; conv=>whnf)
  refine⟨fun h4=>?_,fun h4=>?_⟩
  ·conv=>whnf
   exact ak.bool (fQ (d:=0) hi' h4)
  ·conv=>whnf
   refine .mk (by simp only[okI] at *; first|omega|(simp_all; done)|(simp_all; omega)) ?_
   conv=>whnf
   refine⟨i+1,⟨by omega,?_⟩,by omega,⟨⟨_,rfl,rfl⟩,trivial⟩,?_,rfl⟩
   ·rw[jl (d:=0) hi' hall]; exact h4
   ·repeat' (first|exact trivial|exact⟨_,rfl,rfl⟩|constructor)
 ·have hi':l.length<=i:=by simpa using h3
  rw[List.take_of_length_le hi'] at hall
  conv=>whnf
  exact ak.bool hall
def EU(c l:List Int):Bool:=(List.range c.length).any fun i=>decide (c.getD i 0>0)&& !(GZ l i)
theorem S.sZ(c l:List Int)(f g:Bool)(hc:c.length<2^40)(hl:l.length<2^40):aj Tryz.prog 150 [.row 0 f (.ints c),.row 0 g (.ints l)] (.bool (EU c l)):=by
 refine aj.of Bd.sZ (by simp) rfl rfl ?_
 conv=>whnf
 refine aF.same [0,1] (fun i:Nat=>[(5,.int i)]) (fun i=>i<=c.length/\(List.range i).any (fun i=>decide (c.getD i 0>0)&& !(GZ l i))=false) (fun i=>c.length-i) 0 rfl (by decide) rfl (fun _=>rfl) ⟨by omega,by simp⟩ ⟨⟨_,rfl,rfl⟩,trivial⟩ ?_
 conv=>whnf
 refine⟨rfl,?_⟩
 rintro i ⟨hi,hall⟩
 conv=>whnf
 refine⟨fun h3=>?_,fun h3=>?_⟩
 ·have hi':i<c.length:=by simpa using h3
  conv=>whnf
  repeat(refine VC.mk (by first|exact fun h=>⟨h,h⟩|(simp only[Rw.rng] at *; first|omega|(simp_all; done)|(simp_all; omega))) ?_; conv=>whnf)
  refine ah.fG (fun _=>S.Ig l i g hl) rfl ?_
  conv=>whnf
  repeat(refine VC.mk id ?_; conv=>whnf)
  refine⟨fun h4=>?_,fun h4=>?_⟩
  ·conv=>whnf
   exact ak.bool (xB.2 ⟨i,hi',h4⟩)
  ·conv=>whnf
   refine .mk (by simp only[okI] at *; first|omega|(simp_all; done)|(simp_all; omega)) ?_
   conv=>whnf
   refine⟨i+1,⟨by omega,?_⟩,by omega,⟨⟨_,rfl,rfl⟩,trivial⟩,?_,rfl⟩
   ·rw[List.range_succ,List.any_append,hall]
    simp only[List.any_cons,List.any_nil,Bool.or_false,Bool.false_or]; exact h4
   ·repeat' (first|exact trivial|exact⟨_,rfl,rfl⟩|constructor)
 ·have hi':c.length<=i:=by simpa using h3
  have e:i=c.length:=Nat.le_antisymm hi hi'
  subst e
  conv=>whnf
  exact ak.bool hall
def vw(ex c:List Int)(i:Nat):Bool:=((ex.length:Int)==0)||(List.range i).any fun j=> !(c.getD j 0==0)&&GZ ex j
def rP(al c:List Int)(i:Nat):Bool:=(List.range i).any fun j=> !(c.getD j 0==0)&&(decide ((al.length:Int)>0)&& !(GZ al j))
def oN(r:Rule)(c:List Int):Bool:= !(rP r.all c c.length)&&vw r.ex c c.length
theorem Rj{ex c:List Int}{i:Nat}:vw ex c (i+1)=(vw ex c i||(!(c.getD i 0==0)&&GZ ex i)):=by
 simp only[vw,List.range_succ,List.any_append,List.any_cons,List.any_nil,Bool.or_false,Bool.or_assoc]
theorem Rk{al c:List Int}{i:Nat}:rP al c (i+1)=(rP al c i||(!(c.getD i 0==0)&&(decide ((al.length:Int)>0)&& !(GZ al i)))):=by
 simp only[rP,List.range_succ,List.any_append,List.any_cons,List.any_nil,Bool.or_false]
theorem XF{al c:List Int}{i:Nat}(hi:i<c.length)(h0:(c.getD i 0==0)=false)(h:(decide ((al.length:Int)>0)&& !(GZ al i))=true):rP al c c.length=true :=
 xB.2 ⟨i,hi,by rw[h0,h]; rfl⟩
structure wW(n:Nat)(r:Rule):Prop where
 src:0<=r.fr/\r.fr<n
 dst:0<=r.to/\r.to<n
 adM:0<=r.gJ/\r.gJ<n
 adN:0<=r.BH/\r.BH<n
 rsp:r.kind=3->r.response.length=n/\oM n r.response
 exs:oM n r.ex
def yI(c:List Int):Prop:= ∀ x∈c,0<=x/\x<=1048576
def fA(c:List Int)(i d:Int):List Int:=c.set i.toNat (c.getD i.toNat 0+d)
def aP(c:List Int)(i:Int):List Int:=c.set i.toNat (c.getD i.toNat 0-1)
def kE(r:Rule)(c:List Int)(i:Nat):List Int:=(List.range i).foldl (fun a j=>fA a (r.response.getD j 0) (c.getD j 0)) (List.replicate c.length 0)
def bH(r:Rule)(e:Elem):Option Elem :=
 let c1:=aP e.counts r.fr
 let out (c:List Int):Option Elem:=some ⟨bif decide (r.write>=0) then r.write else e.value,fA c r.to 1⟩
 bif (decide (0<=r.read)&&e.value !=r.read||e.counts.getD r.fr.toNat 0==0) then none else
 bif r.kind==1 then(bif !(oN r c1) then none else out c1) else
 bif r.kind==2 then(bif c1.getD r.gJ.toNat 0==0 then none else out (fA (aP c1 r.gJ) r.BH 1)) else
 bif r.kind==3 then out (kE r c1 c1.length) else out c1
def oP(r:Rule)(e:Elem):V:=match bH r e with
 |none=>.fO [.agg [.int 0,.row 0 true .nil],.bool false]
 |some x=>.fO [.dat (.elem x),.bool true]
theorem Rl(r:Rule)(e:Elem):(oP r e).free=true:=by
 unfold oP; cases bH r e<;>rfl
def Ih(r:Rule)(e:Elem):V:=.fO [.dat (.elem ((bH r e).getD ⟨0,[]⟩)),.bool (bH r e).isSome]
theorem Vj{Z:Nat->Prop}{h:Hp}(r:Rule)(e:Elem):T.sub Z h (Ih r e).aI (oP r e).aI:=by
 unfold Ih oP
 cases bH r e with
 |none =>
  show T.sub Z h (.fO [.agg [.int 0,.sl 0 false []],.bool false]) (.fO [.agg [.int 0,.sl 0 true []],.bool false])
  simp[T.sub,T.dG]
 |some x=>exact aC _
theorem aj.Ih{f:FuncId}{r:Rule}{e:Elem}(S:aj Tryz.prog f [.dat (.rule r),.dat (.elem e)] (oP r e)):aj Tryz.prog f [.dat (.rule r),.dat (.elem e)] (Ih r e) :=
 wu.shut S (fun _=>Vj r e) rfl
theorem yI.get{c:List Int}(h:yI c){i:Nat}(hi:i<c.length):0<=c.getD i 0/\c.getD i 0<=1048576:=by
 rw[show c.getD i 0=c[i] by simp[hi]]; exact h _ (List.getElem_mem hi)
theorem DV{h:Hz}{j:Nat}{Z:Nat->Prop}{l:List Int}(hz:Z j)(q:h.get j=some (.row 3 0 (.ints l) [])):T.sub Z h.au (V.row 0 false (.ints l)).aI (V.own j).aI:=by
 show T.sub Z h.au (.sl 0 false (l.map T.int)) (.own j)
 simp only[T.sub]
 refine⟨trivial,hz,?_,by decide,3,?_⟩
 ·rw[gu]; intro t ht; obtain⟨x,_,rfl⟩:=List.mem_map.1 ht; rfl
 ·have:=aJ q
  rw[this]; simp[OV.aH,Rw.aW,V.aW]
def okB(b:Int)(c:List Int):Prop:= ∀ x∈c,-b<=x/\x<=b
theorem okB.get{b:Int}{c:List Int}(h:okB b c)(hb:0<=b)(i:Nat): -b<=c.getD i 0/\c.getD i 0<=b:=by
 by_cases hi:i<c.length
 ·rw[show c.getD i 0=c[i] by simp[hi]]; exact h _ (List.getElem_mem hi)
 ·rw[show c.getD i 0=0 by simp[List.getD_eq_getElem?_getD,List.getElem?_eq_none (by omega:c.length<=i)]]; omega
theorem okB.add{b k:Int}{c:List Int}(h:okB b c)(hb:0<=b)(i d:Int)(hd: -k<=d/\d<=k):okB (b+k) (fA c i d):=by
 intro x hx
 have hk:0<=k:=by omega
 rcases List.mem_or_eq_of_mem_set hx with hx|rfl
 ·have:=h x hx; omega
 ·have:=h.get hb i.toNat; omega
theorem okB.dec{b:Int}{c:List Int}(h:okB b c)(hb:0<=b)(i:Int):okB (b+1) (aP c i):=by
 have:=h.add hb i (-1) (k:=1) ⟨by omega,by omega⟩
 rw[show aP c i=fA c i (-1) by simp only[aP,fA]; rfl]; exact this
theorem yI.b{c:List Int}(h:yI c):okB 1048576 c:=fun x hx=>by have:=h x hx; omega
theorem ak.KL{h:Hz}{j:Nat}{v:Int}{l:List Int}(q:h.get j=some (.row 3 0 (.ints l) [])):ak (.fO [.dat (.elem ⟨v,l⟩),.bool true]) (.fO [.agg [.int v,.own j],.bool true]) h:=⟨by
 show T.sub (fun _=>True) h.au (.fO [.agg [.int v,.sl 0 false (l.map T.int)],.bool true]) (.fO [.agg [.int v,.own j],.bool true])
 have:=DV (Z:=fun _=>True) trivial q
 replace this:T.sub (fun _=>True) h.au (.sl 0 false (l.map T.int)) (.own j):=this
 simp only[T.sub] at this
 simp only[T.sub,T.dG]
 exact⟨⟨trivial,this,trivial⟩,trivial,trivial⟩⟩
theorem xC{n:Nat}(h:0<n):(bif isZero (.int n) then some Rw.nil else XG (n:Int).toNat (T.int 0))=some (.ints (List.replicate n 0)):=by
 cases n with
 |zero=>omega
 |succ k=>rfl
theorem xE{r:Rule}{c:List Int}{i:Nat}:kE r c (i+1)=fA (kE r c i) (r.response.getD i 0) (c.getD i 0):=by
 simp only[kE,List.range_succ,List.foldl_append,List.foldl_cons,List.foldl_nil]
theorem vC{r:Rule}{c:List Int}{i:Nat}:(kE r c i).length=c.length:=by
 induction i with
 |zero=>simp[kE]
 |succ i ih=>rw[xE]; simp[fA,ih]
theorem XH{r:Rule}{c:List Int}{b:Int}(h:okB b c)(hb:0<=b)(i:Nat):okB (i*b) (kE r c i):=by
 induction i with
 |zero=>intro x hx; simp[kE] at hx; omega
 |succ i ih =>
  rw[xE]
  have h0:0<=(i:Int)*b:=Int.mul_nonneg (by omega) hb
  have:=ih.add h0 (r.response.getD i 0) (c.getD i 0) (k:=b) (h.get hb i)
  rw[show((i+1:Nat):Int)*b=i*b+b by rw[Int.natCast_add,Int.add_mul]; simp]; exact this
abbrev jm(l:List Int):OV:=.row 3 0 (.ints l) []
theorem S.Vk(e:Elem)(he:e.counts.length<2^30)(n:Nat):aU Tryz.prog 148 (V.aW [.dat (.elem e)]) (Hz.au []) n (fun t hp=>t= .agg [.int e.value,.own n]/\hp=Hz.au [(n,some (jm e.counts))]):=by
 refine qF.of (nx:=0) Bd.Ii (by simp) ⟨_,_,rfl,rfl⟩ rfl rfl ?_
 conv=>whnf
 refine .mk (by simp only[kU,kD,Rw.len]; omega) ?_
 conv=>whnf
 exact jH.one (c:=n) (j:=7) (o:=jm e.counts) (t:=.agg [.int e.value,.own n]) rfl rfl rfl nofun (.inr rfl) ⟨trivial,rfl,trivial⟩ (.eq rfl) ⟨rfl,rfl⟩
theorem S.Vl(e:Elem)(he:e.counts.length<2^30):wu Tryz.prog 148 [tq e] (fun n=>.agg [.int e.value,.own n]) (some ⟨3,0,e.counts.map T.int⟩):=by
 refine⟨by exact V.gW [.dat (.elem e)] rfl,fun n=>⟨trivial,rfl,trivial⟩,fun ob h=>?_,fun ob h=>?_,fun n=>?_⟩
 ·cases h
  show T.dD (e.counts.map T.int)=true
  rw[gu]; intro t ht; obtain⟨x,_,rfl⟩:=List.mem_map.1 ht; rfl
 ·cases h; exact show(0:Nat)≠fP by decide
 ·have:=S.Vk e he n
  have e1:Hz.au [(n,some (jm e.counts))]=mX no n (some ⟨3,0,e.counts.map T.int⟩):=by
   rw[bK]; simp[mX,OV.aH,Rw.aW,V.aW]; rfl
  rw[e1] at this
  exact this
theorem Z9{h:Hz}{n:Nat}{l:List Int}:mX h.au n (some ⟨3,0,l.map T.int⟩)=Hz.au ((n,some (jm l))::h):=by
 rw[bK]; simp[mX,OV.aH,Rw.aW,V.aW]
theorem lt1{x:Int}(h:0<=x):decide (x<1)=(x==0):=by
 rw[Bool.eq_iff_iff]; simp; omega
theorem aac{l:List Int}{s:Int}:GZ l s=true↔s∈l:=by
 simp only[GZ,List.any_eq_true,beq_iff_eq]
 constructor
 ·rintro⟨x,h,rfl⟩; exact h
 ·intro h; exact⟨s,h,rfl⟩
theorem XI{al c:List Int}(hc: ∀ i,0<=c.getD i 0):rP al c c.length=(decide (0<(al.length:Int))&&EU c al):=by
 rw[Bool.eq_iff_iff,Bool.and_eq_true]
 simp only[rP,EU,xB,Bool.and_eq_true,decide_eq_true_eq,Bool.not_eq_true',beq_eq_false_iff_ne,ne_eq]
 constructor
 ·rintro⟨i,h1,h2,h3,h4⟩
  exact⟨h3,i,h1,by have:=hc i; omega,h4⟩
 ·rintro⟨h3,i,h1,h2,h4⟩
  exact⟨i,h1,by omega,h3,h4⟩
theorem found_eq{ex c:List Int}(hc: ∀ i,0<=c.getD i 0)(hx:oM c.length ex):(!(vw ex c c.length))=(decide (0<(ex.length:Int))&& !(DU c ex)):=by
 have h:vw ex c c.length=(!(decide (0<(ex.length:Int)))||DU c ex):=by
  rw[vw]
  congr 1
  ·rw[Bool.eq_iff_iff]; simp
  ·rw[Bool.eq_iff_iff]
   simp only[DU,List.mem_range,Bool.and_eq_true,decide_eq_true_eq,Bool.not_eq_true',beq_eq_false_iff_ne,ne_eq,List.any_eq_true,aac]
   constructor
   ·rintro⟨i,h1,h2,h3⟩
    exact⟨i,h3,by have:=hc i; simp only[Int.toNat_natCast]; omega⟩
   ·rintro⟨q,h1,h2⟩
    obtain⟨t1,t2⟩:=hx q h1
    have t3:q.toNat<c.length:=by omega
    have t4: ¬ c.getD q.toNat 0=0:=by omega
    exact⟨q.toNat,t3,t4,by rw[Int.toNat_of_nonneg t1]; exact h1⟩
 rw[h]; cases decide (0<(ex.length:Int))<;>cases DU c ex<;>rfl
theorem OJ{r:Rule}{c:List Int}(hc: ∀ i,0<=c.getD i 0)(hx:oM c.length r.ex) :
  ((decide (0<(r.ex.length:Int))&& !(DU c r.ex))||(decide (0<(r.all.length:Int))&&EU c r.all))= !(oN r c):=by
 rw[oN,Bool.not_and,Bool.not_not,XI hc,found_eq hc hx,Bool.or_comm]
theorem TW{r:Rule}{e:Elem}(hc:yI e.counts)(h1:(decide (0<=r.read)&&e.value !=r.read||e.counts.getD r.fr.toNat 0==0)=false)(i:Nat):0<=(aP e.counts r.fr).getD i 0:=by
 have h0: ∀ j,0<=e.counts.getD j 0:=fun j=>by
  by_cases hj:j<e.counts.length
  ·exact(hc.get hj).1
  ·rw[show e.counts.getD j 0=0 by simp[List.getD_eq_getElem?_getD,List.getElem?_eq_none (by omega:e.counts.length<=j)]]; omega
 have h2:e.counts.getD r.fr.toNat 0≠0:=by
  rw[Bool.or_eq_false_iff] at h1
  have:=h1.2
  simpa using this
 have h3:=h0 r.fr.toNat
 have h4:=h0 i
 rw[aP,List.getD_eq_getElem?_getD,List.getElem?_set]
 split
 ·split
  ·simp only[Option.getD_some]; omega
  ·simp
 ·rw[<- List.getD_eq_getElem?_getD]; exact h4
theorem okF{ρ:Nat->Nat}{nx pn c n:Nat}{h:Hz}{s:List Nat}{o o':OV}(q1:Nat.blt c nx=true)(q2:Nat.blt c pn=true->n=c)(q3:Ij n s=true)(q4:(o.good nx&&o.Gw)=true)(q5:h.get n=some o')
  (q6:o'.aH.ty=o.aH.ty/\o'.aH.k=o.aH.k) (q7:o.aH.l=o'.aH.l):Nat.blt c nx=true/\(Nat.blt c pn=true->n=c)/\Ij n s=true/\o.good nx=true /\
   ∃ o',h.get n=some o'/\o'.aH.ty=o.aH.ty/\o'.aH.k=o.aH.k/\bn (T.dw ρ o.aH.l) o'.aH.l:=by
 rw[Bool.and_eq_true] at q4
 exact⟨q1,q2,q3,q4.1,o',q5,q6.1,q6.2,bn.of_eq ((OV.yJ q4.2 ρ).trans q7)⟩
set_option maxHeartbeats 1000000 in
theorem S.zN(r:Rule)(e:Elem)(hr:vk r)(hp:wW e.counts.length r)(hc:yI e.counts)(hl:e.counts.length<=6):aj Tryz.prog 108 [.dat (.rule r),.dat (.elem e)] (oP r e):=by
 obtain⟨f1,f2⟩:=hp.src
 obtain⟨d1,d2⟩:=hp.dst
 obtain⟨p1,p2⟩:=hp.adM
 obtain⟨q1,q2⟩:=hp.adN
 have hfr:=hc.get (i:=r.fr.toNat) (by omega)
 refine aj.of Bd.zN (by simp) rfl (Rl r e) ?_
 conv=>whnf
 repeat(refine VC.mk (by first|exact id|exact fun h=>⟨h,h⟩|(intro h; rw[h]; rfl)|(intro h; (repeat' apply And.intro)<;>first|exact h|omega|(simp only[Rw.lM]; omega)|(simp only[Rw.rng]; omega))) ?_; conv=>whnf)
 refine⟨fun h1=>?_,fun h1=>?_⟩
 ·conv=>whnf
  refine ak.eqv ?_
  rw[lt1 hfr.1] at h1
  rw[oP,bH,h1]; rfl
 rw[lt1 hfr.1] at h1
 conv=>whnf
 refine ah.heap (wu.frame (S.Vl e (by omega)) _ _) ?_
 rintro t hp ⟨rfl,rfl⟩
 refine⟨.agg [.int e.value,.own 24],(24,some (jm e.counts))::_,rfl,Z9,?_⟩
 have hl1:(aP e.counts r.fr).length=e.counts.length:=by simp[aP]
 conv=>whnf
 repeat(refine VC.mk (by first|(first|(simp only[Rw.rng]; omega)|(simp only[okI,aP] at *; omega))|exact fun h=>h|exact fun h=>⟨h,h⟩) ?_; conv=>whnf)
 have hex:=hr.ex
 have hal:=hr.all
 refine ah.KG (fun _=>S.zM (aP e.counts r.fr) r.ex false false (by omega) (by omega) (by rw[hl1]; exact hp.exs)) (fun _=>And.intro (DV trivial rfl) (And.intro (aC _) trivial)) rfl rfl ?_
 conv=>whnf
 repeat(refine VC.mk (by first|exact id|exact fun h=>⟨h,h⟩|(intro h; simp[h]; done)) ?_; conv=>whnf)
 refine ah.KG (fun _=>S.sZ (aP e.counts r.fr) r.all false false (by omega) (by omega)) (fun _=>And.intro (DV trivial rfl) (And.intro (aC _) trivial)) rfl rfl ?_
 conv=>whnf
 repeat(refine VC.mk (by cases (r.kind==1)<;>cases (decide (0<(r.ex.length:Int))&& !DU (aP e.counts r.fr) r.ex)<;>simp) ?_; conv=>whnf)
 have hpos: ∀ i,0<=(aP e.counts r.fr).getD i 0:=TW hc h1
 refine⟨fun h2=>?_,fun h2=>?_⟩
 ·replace h2:((r.kind==1)&&((decide (0<(r.ex.length:Int))&& !(DU (aP e.counts r.fr) r.ex))||(decide (0<(r.all.length:Int))&&EU (aP e.counts r.fr) r.all)))=true:=h2
  rw[OJ hpos (by rw[hl1]; exact hp.exs),Bool.and_eq_true] at h2
  conv=>whnf
  refine ak.eqv ?_
  rw[oP,bH,h1,h2.1,h2.2]; rfl
 replace h2:((r.kind==1)&&((decide (0<(r.ex.length:Int))&& !(DU (aP e.counts r.fr) r.ex))||(decide (0<(r.all.length:Int))&&EU (aP e.counts r.fr) r.all)))=false:=h2
 rw[OJ hpos (by rw[hl1]; exact hp.exs)] at h2
 conv=>whnf
 refine⟨fun h5=>?_,fun h5=>?_⟩
 ·replace h5:(r.kind==2)=true:=h5
  have hB:=hc.b.dec (by omega) r.fr
  have hB1:=hB.get (by omega) r.gJ.toNat
  have hB2:=hB.dec (by omega) r.gJ
  have hB3:=hB2.get (by omega) r.BH.toNat
  have hB4:=hB2.add (by omega) r.BH 1 (k:=1) ⟨by omega,by omega⟩
  have hB5:=hB4.get (by omega) r.to.toNat
  have h12:(r.kind==1)=false:=by rw[beq_iff_eq.1 h5]; rfl
  conv=>whnf
  repeat(refine VC.mk (by first|(simp only[Rw.rng,List.length_set]; omega)|(simp only[aP,fA] at *; omega)) ?_; conv=>whnf)
  refine⟨fun h6=>?_,fun h6=>?_⟩
  ·replace h6:decide ((aP e.counts r.fr).getD r.gJ.toNat 0<1)=true:=h6
   rw[lt1 (hpos _)] at h6
   conv=>whnf
   refine ak.eqv ?_
   rw[oP,bH,h1,h12,h5,h6]; rfl
  ·replace h6:decide ((aP e.counts r.fr).getD r.gJ.toNat 0<1)=false:=h6
   rw[lt1 (hpos _)] at h6
   have h13:(r.kind==3)=false:=by rw[beq_iff_eq.1 h5]; rfl
   conv=>whnf
   repeat(refine VC.mk (by first|(simp only[Rw.rng,List.length_set]; omega)|(simp only[okI,aP,fA] at *; omega)) ?_; conv=>whnf)
   refine Fork.mk (fun q=>absurd (q.symm.trans (h13)).symm Bool.false_ne_true) (fun _=>?_)
   conv=>whnf
   repeat(refine VC.mk (by simp only[okI,Rw.rng] at *; first|omega|(simp_all; done)|(simp_all; omega)) ?_; conv=>whnf)
   conv=>whnf
   repeat(refine VC.mk (by first|(simp only[Rw.rng,List.length_set]; omega)|(simp only[okI,aP,fA] at *; omega)) ?_; conv=>whnf)
   refine⟨fun h4=>?_,fun h4=>?_⟩
   ·replace h4:decide (r.write>=0)=true:=h4
    have hS:oP r e= .fO [.dat (.elem ⟨r.write,fA (fA (aP (aP e.counts r.fr) r.gJ) r.BH 1) r.to 1⟩),.bool true]:=by rw[oP,bH,h1,h12,h5,h6,h4]; rfl
    conv=>whnf
    rw[hS]
    exact ak.KL rfl
   ·replace h4:decide (r.write>=0)=false:=h4
    have hS:oP r e= .fO [.dat (.elem ⟨e.value,fA (fA (aP (aP e.counts r.fr) r.gJ) r.BH 1) r.to 1⟩),.bool true]:=by rw[oP,bH,h1,h12,h5,h6,h4]; rfl
    conv=>whnf
    rw[hS]
    exact ak.KL rfl
 ·replace h5:(r.kind==2)=false:=h5
  conv=>whnf
  refine⟨fun h6=>?_,fun h6=>?_⟩
  ·have h12:(r.kind==1)=false:=by rw[beq_iff_eq.1 h6]; rfl
   have hB:=hc.b.dec (by omega) r.fr
   obtain⟨rs1,rs2⟩:=hp.rsp (beq_iff_eq.1 h6)
   conv=>whnf
   have hm:=xC (n:=(aP e.counts r.fr).length) (by omega)
   simp only[aP] at hm
   rw[hm]
   conv=>whnf
   refine .mk (by simp only[List.length_set]; omega) ?_
   conv=>whnf
   refine aF.lY 100 [2,4,6] (fun i:Nat=>[(8,.int i),(7,.own 75)]) (fun i=>[(0,.box 107 19 (.dat (.rule r))),(1,.box 41 3 (.dat (.elem e))),(2,.box 41 3 (.agg [.int 0,.row 0 true .nil])),(24,jm (aP e.counts r.fr)),(25,.box 41 3 (.agg [.int e.value,.own 24])),(75,jm (kE r (aP e.counts r.fr) i))]) (fun i=>i<=(aP e.counts r.fr).length) (fun i=>(aP e.counts r.fr).length-i) 0 [0,1,2,24,25,75] rfl (by decide) (fun _=>rfl) (Nat.zero_le _) ?_ ?_ ?_
   ·exact⟨⟨_,rfl,.eq rfl⟩,⟨_,rfl,.eq rfl⟩,trivial⟩
   ·exact⟨okF rfl nofun rfl rfl rfl ⟨rfl,rfl⟩ rfl,okF rfl nofun rfl rfl rfl ⟨rfl,rfl⟩ rfl,okF rfl nofun rfl rfl rfl ⟨rfl,rfl⟩ rfl,okF rfl nofun rfl rfl rfl ⟨rfl,rfl⟩ rfl,⟨rfl,nofun,rfl,rfl,_,rfl,rfl,rfl,bn.of_eq rfl⟩,okF rfl nofun rfl rfl rfl ⟨rfl,rfl⟩ rfl,trivial⟩
   conv=>whnf
   refine⟨⟨⟨_,rfl,.eq rfl⟩,⟨_,rfl,.eq rfl⟩,⟨_,rfl,.eq rfl⟩,trivial⟩,rfl,?_⟩
   rintro i hi
   have EW:(i:Int)*1048577<=6*1048577:=Int.mul_le_mul_of_nonneg_right (by omega) (by omega)
   have hn0:0<=(i:Int)*1048577:=Int.mul_nonneg (by omega) (by omega)
   have hRB:=XH hB (by omega) (r:=r) i
   have hRl:(kE r (aP e.counts r.fr) i).length=e.counts.length:=by rw[vC,hl1]
   conv=>whnf
   refine⟨fun g1=>?_,fun g1=>?_⟩
   ·have hi':i<(aP e.counts r.fr).length:=by
     have:(i:Int)<((kE r (aP e.counts r.fr) i).length:Int):=of_decide_eq_true g1
     omega
    have hir:i<r.response.length:=by omega
    obtain⟨q3,q4⟩:0<=r.response.getD i 0/\r.response.getD i 0<e.counts.length:=by
     rw[show r.response.getD i 0=r.response[i] by simp[hir]]; exact rs2 _ (List.getElem_mem hir)
    have hR1:=hRB.get hn0 (r.response.getD i 0).toNat
    have hR2:=hB.get (by omega) i
    conv=>whnf
    repeat(refine VC.mk (by first|(first|(simp only[Rw.rng,vC]; omega)|(simp only[okI,aP,Int.toNat_natCast] at *; omega))|(simp only[Rw.rng] at *; first|omega|(simp_all; done)|(simp_all; omega))) ?_; conv=>whnf)
    refine⟨i+1,[0,1,2,24,25,75],by omega,by omega,⟨⟨_,rfl,.eq rfl⟩,⟨_,rfl,.eq rfl⟩,trivial⟩,⟨⟨_,rfl,.eq rfl⟩,⟨_,rfl,.eq rfl⟩,⟨_,rfl,.eq rfl⟩,trivial⟩,okF rfl nofun rfl rfl rfl ⟨rfl,rfl⟩ rfl,okF rfl nofun rfl rfl rfl ⟨rfl,rfl⟩ rfl,okF rfl nofun rfl rfl rfl ⟨rfl,rfl⟩ rfl,okF rfl nofun rfl rfl rfl ⟨rfl,rfl⟩ rfl,⟨rfl,nofun,rfl,rfl,_,rfl,rfl,rfl,bn.of_eq rfl⟩,okF rfl nofun rfl rfl rfl ?_ ?_,trivial⟩
    ·exact⟨rfl,rfl⟩
    ·rw[xE]; rfl
   have hi':i=(aP e.counts r.fr).length:=by
    have: ¬ ((i:Int)<((kE r (aP e.counts r.fr) i).length:Int)):=of_decide_eq_false g1
    omega
   subst hi'
   have hR1:=hRB.get hn0 r.to.toNat
   conv=>whnf
   repeat(refine VC.mk (by first|(simp only[Rw.rng,vC]; omega)|(simp only[okI,aP,Int.toNat_natCast] at *; omega)) ?_; conv=>whnf)
   refine⟨fun h4=>?_,fun h4=>?_⟩
   ·replace h4:decide (r.write>=0)=true:=h4
    have hS:oP r e= .fO [.dat (.elem ⟨r.write,fA (kE r (aP e.counts r.fr) (aP e.counts r.fr).length) r.to 1⟩),.bool true]:=by rw[oP,bH,h1,h12,h5,h6,h4]; rfl
    conv=>whnf
    rw[hS]
    exact ak.KL rfl
   ·replace h4:decide (r.write>=0)=false:=h4
    have hS:oP r e= .fO [.dat (.elem ⟨e.value,fA (kE r (aP e.counts r.fr) (aP e.counts r.fr).length) r.to 1⟩),.bool true]:=by rw[oP,bH,h1,h12,h5,h6,h4]; rfl
    conv=>whnf
    rw[hS]
    exact ak.KL rfl
  ·replace h6:(r.kind==3)=false:=h6
   have hB:=hc.b.dec (by omega) r.fr
   have hB1:=hB.get (by omega) r.to.toNat
   have hgen:bH r e=some ⟨bif decide (r.write>=0) then r.write else e.value,fA (aP e.counts r.fr) r.to 1⟩:=by
    rw[bH,h1,h5,h6]
    cases h12:(r.kind==1) with
    |false=>rfl
    |true=>rw[h12,Bool.true_and] at h2; rw[h2]; rfl
   conv=>whnf
   repeat(refine VC.mk (by first|(simp only[Rw.rng,List.length_set]; omega)|(simp only[okI,aP,fA] at *; omega)) ?_; conv=>whnf)
   refine⟨fun h4=>?_,fun h4=>?_⟩
   ·replace h4:decide (r.write>=0)=true:=h4
    have hS:oP r e= .fO [.dat (.elem ⟨r.write,fA (aP e.counts r.fr) r.to 1⟩),.bool true]:=by rw[oP,hgen,h4]; rfl
    conv=>whnf
    rw[hS]
    exact ak.KL rfl
   ·replace h4:decide (r.write>=0)=false:=h4
    have hS:oP r e= .fO [.dat (.elem ⟨e.value,fA (aP e.counts r.fr) r.to 1⟩),.bool true]:=by rw[oP,hgen,h4]; rfl
    conv=>whnf
    rw[hS]
    exact ak.KL rfl
theorem bz{c:Bool}{a b:Int}(ha:c=true->a≠0)(h:(bif c then a else b)=0):c=false/\b=0:=by
 cases c with
 |true=>exact absurd h (ha rfl)
 |false=>exact⟨rfl,h⟩
theorem nz{a:Int}(h:(a !=0)=true):a≠0:=by simpa using h
theorem je: ∀ {l:List Int},aT l=0-> ∀ x∈l,x=0:=by
 intro l
 induction l with
 |nil=>intro _ x h; cases h
 |cons a r ih =>
  intro h x hx
  simp only[aT] at h
  split at h
  ·rename_i h0
   rcases List.mem_cons.1 hx with rfl|hx
   ·exact h0
   ·exact ih h x hx
  ·rename_i h0; exact absurd h h0
structure EX(p:aX):Prop where
 pos:0<p.states.length
 states:p.states.length<=6
 values:p.values.length<=3
 ab3:p.rules.length<=8
 init:dO p.initial p.states.length=0
 start:p.initial≠[]
 rule: ∀ i,i<p.rules.length->gK p i=0
theorem ab4{p:aX}(h:dH p=0):EX p:=by
 unfold dH at h
 obtain⟨_,h⟩:=bz (fun _=>by decide) h
 obtain⟨_,h⟩:=bz (fun _=>by decide) h
 obtain⟨h0,h⟩:=bz (fun _=>by decide) h
 obtain⟨h1,h⟩:=bz (fun _=>by decide) h
 obtain⟨_,h⟩:=bz nz h
 obtain⟨_,h⟩:=bz (fun _=>by decide) h
 obtain⟨_,h⟩:=bz (fun _=>by decide) h
 obtain⟨h2,h⟩:=bz nz h
 obtain⟨h3,h⟩:=bz nz h
 have h2':xF p=0:=by simpa using h2
 have h3':CP p=0:=by simpa using h3
 have g:=je h2'
 simp only[vF,Bool.or_eq_false_iff,decide_eq_false_iff_not] at h1
 refine⟨?_,by omega,by omega,by omega,g _ (by simp),?_,fun i hi=>?_⟩
 ·have:(p.states.length:Int)≠0:=by simpa using h0
  omega
 ·intro e
  have:=g (dV ((p.initial.length:Int)==0) 1) (by simp)
  rw[e] at this; exact absurd this (by decide)
 ·exact je h3' _ (List.mem_map.2 ⟨i,by simpa using hi,rfl⟩)
theorem qG{x:Int}{n:Nat}(h:nK x n=false):0<=x/\x<n:=by
 simp only[nK,Bool.or_eq_false_iff,decide_eq_false_iff_not] at h; omega
theorem CQ{x:Int}{n:Nat}(h:cZ x n=0):0<=x/\x<n:=by
 refine qG ?_
 unfold cZ dV at h
 cases hb:nK x n with
 |false=>rfl
 |true=>rw[hb] at h; exact absurd h (by decide)
theorem AQ{l:List Int}{n:Nat}(h:dO l n=0):oM n l:=by
 unfold dO at h
 obtain⟨h,_⟩:=bz (fun _=>by decide) h
 rw[List.any_eq_false] at h
 exact fun q hq=>qG (by simpa using h q hq)
theorem OL{n:Nat}: ∀ {l:List Int},pq l n=0->oM n l:=by
 intro l
 induction l with
 |nil=>intro _ q h; cases h
 |cons x r ih =>
  intro h q hq
  simp only[pq] at h
  split at h
  ·rename_i h0
   rcases List.mem_cons.1 hq with rfl|hq
   ·exact CQ h0
   ·exact ih h q hq
  ·rename_i h0; exact absurd h h0
theorem Vm{k:Int}(h:uq k 1=true):k=1\/k=2\/k=3:=by
 unfold uq at h
 cases h1:(k==1) with
 |true=>exact .inl (beq_iff_eq.1 h1)
 |false =>
  cases h2:(k==2) with
  |true=>exact .inr (.inl (beq_iff_eq.1 h2))
  |false =>
   cases h3:(k==3) with
   |true=>exact .inr (.inr (beq_iff_eq.1 h3))
   |false=>rw[h1,h2,h3] at h; cases hb:(k==4||k==5)<;>rw[hb] at h<;>cases h
structure abB(n:Nat)(p:aX)(r:Rule):Prop where
 place:wW n r
 kind:r.kind=1\/r.kind=2\/r.kind=3
 afn:oM n r.all
 ex1:r.kind≠1->r.ex=[]/\r.all=[]
 rd:nK r.read p.values.length=false\/r.read= -1
 wr:nK r.write p.values.length=false\/r.write= -1
theorem rQ{p:aX}{v:Int}(h:jI p v=0):nK v p.values.length=false\/v= -1:=by
 unfold jI dV at h
 have h': ¬ (v< -1\/v>=(p.values.length:Int)):=by
  intro q
  have:(decide (v< -1)||decide (v>=(p.values.length:Int)))=true:=by simpa using q
  rw[this] at h; exact absurd h (by decide)
 by_cases e:v= -1
 ·exact .inr e
 ·left
  simp only[nK,Bool.or_eq_false_iff,decide_eq_false_iff_not]; omega
theorem TY{p:aX}{i:Nat}(hv:EX p)(ht:p.topology=1)(hi:i<p.rules.length):abB p.states.length p (p.rules.getD i default):=by
 have h:=hv.rule i hi
 have hpos:=hv.pos
 simp only[gK,qH] at h
 generalize (p.rules.getD i default)=r at h ⊢
 obtain⟨_,h⟩:=bz (fun _=>by decide) h
 obtain⟨hb,h⟩:=bz (fun _=>by decide) h
 obtain⟨he,h⟩:=bz nz h
 rw[G5,Bool.or_eq_false_iff] at he
 rw[ht,Bool.or_eq_false_iff] at hb
 have hk:=Vm (show uq r.kind 1=true by simpa using hb.1)
 have hu:lQ r 1=false:=by rw[zO (by omega)]; exact hb.2
 have hun:=KN hu
 have hpf:r.kind≠2->r.kind≠5->r.gJ=0/\r.BH=0:=by
  intro k1 k2
  simp only[lQ,Ua,Bool.or_eq_false_iff] at hu
  have h3:=hu.2.2.1
  simp only[beq_eq_false_iff_ne.2 k1,beq_eq_false_iff_ne.2 k2,Bool.not_false,Bool.true_and,Bool.or_eq_false_iff] at h3
  exact⟨Rn h3.1,Rn h3.2⟩
 have h00:(0:Int)<=0/\(0:Int)<p.states.length:=⟨by omega,by omega⟩
 have pn:oM p.states.length []:=fun q hq=>by cases hq
 rcases hk with e|e|e
 ·rw[e] at h
  have g:=je h
  have⟨a,b⟩:=hpf (by omega) (by omega)
  exact⟨⟨qG he.1,qG he.2,by rw[a]; exact h00,by rw[b]; exact h00,fun q=>by omega,AQ (g (dO r.ex p.states.length) (by simp))⟩,.inl e,AQ (g (dO r.all p.states.length) (by simp)),fun q=>absurd e q,rQ (g (jI p r.read) (by simp)),rQ (g (jI p r.write) (by simp))⟩
 ·rw[e] at h
  have g:=je h
  obtain⟨_,u1,u2,_⟩:=hun.1 (by omega)
  exact⟨⟨qG he.1,qG he.2,CQ (g (cZ r.gJ p.states.length) (by simp)),CQ (g (cZ r.BH p.states.length) (by simp)),fun q=>by omega,by rw[u1]; exact pn⟩,.inr (.inl e),by rw[u2]; exact pn,fun _=>⟨u1,u2⟩,rQ (g (jI p r.read) (by simp)),rQ (g (jI p r.write) (by simp))⟩
 ·rw[e] at h
  have g:=je h
  have⟨a,b⟩:=hpf (by omega) (by omega)
  obtain⟨_,u1,u2,_⟩:=hun.1 (by omega)
  have hr:=g (DW r.response p.states.length) (by simp)
  unfold DW at hr
  obtain⟨r1,r2⟩:=bz (fun _=>by decide) hr
  exact⟨⟨qG he.1,qG he.2,by rw[a]; exact h00,by rw[b]; exact h00,fun _=>⟨by have q9:(r.response.length:Int)=p.states.length:=(by simpa using r1); omega,OL r2⟩,by rw[u1]; exact pn⟩,.inr (.inr e),by rw[u2]; exact pn,fun _=>⟨u1,u2⟩,rQ (g (jI p r.read) (by simp)),rQ (g (jI p r.write) (by simp))⟩
theorem AU{p:aX}(h:uh p=true):p.topology=1:=by
 simp only[uh,Bool.and_eq_true,beq_iff_eq] at h; exact h.1.1.1
structure afo(p:aX)(e:Elem):Prop where
 valid:EX p
 plain:uh p=true
 len:e.counts.length=p.states.length
 nums:yI e.counts
 val:0<=e.value/\e.value<max 1 (p.values.length:Int)
theorem KO{b:Bool}{n:Int}(h:dV b n=0)(hn:n≠0):b=false:=by
 cases b with
 |false=>rfl
 |true=>exact absurd h hn
theorem aad{x:Int}:J3 x=true↔0<=x/\x<=1048576:=by simp[J3]
theorem iC{α:Type}{c:Bool}{a b:Option α}{x:α}(h:(bif c then a else b)=some x):a=some x\/b=some x:=by
 cases c with
 |true=>exact .inl h
 |false=>exact .inr h
theorem KP{c:List Int}{i d:Int}:(fA c i d).length=c.length:=by simp[fA]
theorem rU{c:List Int}{i:Int}:(aP c i).length=c.length:=by simp[aP]
theorem xG{r:Rule}{e x:Elem}(h:bH r e=some x):x.counts.length=e.counts.length:=by
 simp only[bH] at h
 have out: ∀ {c:List Int} {v:Int},c.length=e.counts.length->some (⟨v,fA c r.to 1⟩:Elem)=some x->x.counts.length=e.counts.length:=by
  intro c v hc h; cases h; rw[KP,hc]
 rcases iC h with h|h
 ·cases h
 rcases iC h with h|h
 ·rcases iC h with h|h
  ·cases h
  ·exact out rU h
 rcases iC h with h|h
 ·rcases iC h with h|h
  ·cases h
  ·exact out (by rw[KP,rU,rU]) h
 rcases iC h with h|h
 ·exact out (by rw[vC,rU]) h
 ·exact out rU h
structure jF(q:Prop'):Prop where
 start:q.start.length<2^30
 bad:q.bad.length<2^30
 adjacent:q.adjacent.length<2^30
 goal:q.goal.length<2^30
 cnt: ∀ i,(q.bad.getD i default).states.length<2^30
def oQ(c:Cnt):Bool:=((c.states.length:Int)==0||decide (c.least<1))||decide (c.least>3)
def J4(n:Int)(c:Cnt):Int:=aT [dO c.states n,dV (oQ c) 1]
def uF(l:List Cnt)(n:Int):Int:=aT (l.map (J4 n))
def Gx(p:aX)(l:List Int):Int:=bif (l.length:Int)==0 then 0 else bif p.topology==1 then 6 else bif (l.length:Int) !=2 then 1 else aT [cZ (l.getD 0 0) p.states.length,cZ (l.getD 1 0) p.states.length]
def uG(q:Prop'):Bool:=((q.kind==1)&&decide ((q.goal.length:Int)>0))||(!(q.kind==1)&&(decide ((q.bad.length:Int)>0)||decide ((q.adjacent.length:Int)>0)))
def jo(p:aX)(q:Prop'):Int :=
 let n:Int:=p.states.length
 bif dH p !=0 then dH p else bif !(validName q.name) then 2 else bif !(q.kind==1)&&q.kind !=2 then 1 else bif uG q then 1 else
 bif dO q.start n !=0 then dO q.start n else bif q.start.any (fun x=> !(GZ p.initial x)) then 5 else
 bif !(q.kind==1) then aT [dO q.goal n,dV ((q.goal.length:Int)==0) 1] else
 aT [dV (((q.bad.length:Int)==0)&&((q.adjacent.length:Int)==0)) 1,dV (decide ((q.bad.length:Int)>3)) 4,uF q.bad n,Gx p q.adjacent]
theorem S.lZ(l:List Cnt)(n:Int)(f:Bool)(hl:l.length<2^30)(hs: ∀ i,(l.getD i default).states.length<2^30):aj Tryz.prog 131 [.row 3 f (.cnts l),.int n] (.int (uF l n)):=by
 refine aj.of Bd.lZ (by simp) rfl rfl ?_
 conv=>whnf
 refine aF.same [1,8,9] (fun i:Nat=>[(10,.int i)]) (fun i=>i<=l.length/\uF l n=aT ((l.drop i).map (J4 n))) (fun i=>l.length-i) 0 rfl (by decide) rfl (fun _=>rfl) ⟨by omega,by simp[uF]⟩ ⟨⟨_,rfl,rfl⟩,trivial⟩ ?_
 conv=>whnf
 refine⟨rfl,?_⟩
 rintro i ⟨hi,hall⟩
 conv=>whnf
 refine⟨fun h3=>?_,fun h3=>?_⟩
 ·have hi':i<l.length:=by simpa using h3
  rw[bC default hi',List.map_cons] at hall
  simp only[aT] at hall
  have hc:=hs i
  conv=>whnf
  refine .mk (by simp only[Rw.rng] at *; omega) ?_
  conv=>whnf
  refine ah.pure (S.dQ (l.getD i default).states n false (by omega)) rfl ?_
  conv=>whnf
  repeat(refine VC.mk (by first|exact id|(intro h; rw[h]; rfl)) ?_; conv=>whnf)
  refine ah.pure (S.bU (oQ (l.getD i default)) 1) rfl ?_
  conv=>whnf
  refine ah.pure (S.bQ [dO (l.getD i default).states n,dV (oQ (l.getD i default)) 1] true (show 2<2^40 by decide)) rfl ?_
  conv=>whnf
  refine⟨fun h4=>?_,fun h4=>?_⟩
  ·conv=>whnf
   refine ak.int ?_
   have h4':J4 n (l.getD i default)≠0:=nz h4
   rw[hall,if_neg h4']; rfl
  ·conv=>whnf
   refine .mk (by simp only[okI] at *; omega) ?_
   conv=>whnf
   have h4':J4 n (l.getD i default)=0:=yF h4
   rw[if_pos h4'] at hall
   refine⟨i+1,⟨by omega,hall⟩,by omega,⟨⟨_,rfl,rfl⟩,trivial⟩,?_,rfl⟩
   repeat' (first|exact trivial|exact⟨_,rfl,rfl⟩|constructor)
 ·have hi':l.length<=i:=by simpa using h3
  rw[List.drop_eq_nil_of_le hi'] at hall
  conv=>whnf
  exact ak.int (by rw[hall]; rfl)
theorem S.kF(p:aX)(l:List Int)(f:Bool)(_hl:l.length<2^30):aj Tryz.prog 132 [.dat (.bW p),.row 0 f (.ints l)] (.int (Gx p l)):=by
 refine aj.of Bd.kF (by simp) rfl rfl ?_
 conv=>whnf
 refine⟨fun h1=>?_,fun h1=>?_⟩
 ·conv=>whnf
  exact ak.int (by rw[Gx,h1]; rfl)
 conv=>whnf
 refine⟨fun h2=>?_,fun h2=>?_⟩
 ·conv=>whnf
  exact ak.int (by rw[Gx,h1,h2]; rfl)
 conv=>whnf
 refine⟨fun h3=>?_,fun h3=>?_⟩
 ·conv=>whnf
  exact ak.int (by rw[Gx,h1,h2,h3]; rfl)
 have h4:l.length=2:=by
  have:(l.length:Int)=2:=by simpa using h3
  omega
 conv=>whnf
 repeat(refine VC.mk (by simp only[Rw.rng] at *; omega) ?_; conv=>whnf)
 refine ah.pure (S.bY (l.getD 0 0) p.states.length) rfl ?_
 conv=>whnf
 refine ah.pure (S.bY (l.getD 1 0) p.states.length) rfl ?_
 conv=>whnf
 refine ah.pure (S.bQ [cZ (l.getD 0 0) p.states.length,cZ (l.getD 1 0) p.states.length] true (show 2<2^40 by decide)) rfl ?_
 conv=>whnf
 exact ak.int (by rw[Gx,h1,h2,h3]; rfl)
theorem S.dP(p:aX)(q:Prop')(hp:dn p)(hq:jF q):aj Tryz.prog 84 [.dat (.bW p),.dat (.prop q)] (.int (jo p q)):=by
 have g1:=hp.states; have g5:=hp.initial
 have q1:=hq.start; have q2:=hq.bad; have q3:=hq.adjacent; have q4:=hq.goal
 refine aj.of Bd.dP (by simp) rfl rfl ?_
 conv=>whnf
 refine ah.pure (S.iU p hp) rfl ?_
 conv=>whnf
 refine⟨fun h1=>?_,fun h1=>?_⟩
 ·conv=>whnf
  exact ak.int (by rw[jo,h1]; rfl)
 conv=>whnf
 refine ah.pure (S.fU q.name) rfl ?_
 conv=>whnf
 refine⟨fun h2=>?_,fun h2=>?_⟩
 ·conv=>whnf
  exact ak.int (by rw[jo,h1,h2]; rfl)
 conv=>whnf
 repeat(refine VC.mk id ?_; conv=>whnf)
 refine⟨fun h3=>?_,fun h3=>?_⟩
 ·conv=>whnf
  exact ak.int (by rw[jo,h1,h2,h3]; rfl)
 conv=>whnf
 repeat(refine VC.mk id ?_; conv=>whnf)
 refine⟨fun h4=>?_,fun h4=>?_⟩
 ·conv=>whnf
  refine Fork.mk (fun _=>?_) (fun q=>absurd (q.symm.trans (h4)) Bool.false_ne_true)
  conv=>whnf
  exact ak.int (by rw[jo,h1,h2,h3,show uG q=true by rw[uG]; erw [h4]; rfl]; rfl)
 conv=>whnf
 repeat(refine VC.mk (by first|exact id|(intro h; simp_all; done)) ?_; conv=>whnf)
 refine⟨fun h5=>?_,fun h5=>?_⟩
 ·conv=>whnf
  exact ak.int (by rw[jo,h1,h2,h3,show uG q=true by rw[uG]; erw [h5]; simp]; rfl)
 have h45:uG q=false:=by rw[uG]; erw [h4,h5]; rfl
 conv=>whnf
 refine ah.pure (S.dQ q.start p.states.length false (by omega)) rfl ?_
 conv=>whnf
 refine⟨fun h6=>?_,fun h6=>?_⟩
 ·conv=>whnf
  exact ak.int (by rw[jo,h1,h2,h3,h45,h6]; rfl)
 conv=>whnf
 refine aF.same [2,3,6,7,65,66] (fun i:Nat=>[(67,.int i)]) (fun i=>i<=q.start.length/\(q.start.take i).any (fun x=> !(GZ p.initial x))=false) (fun i=>q.start.length-i) 0 rfl (by decide) rfl (fun _=>rfl) ⟨by omega,by simp⟩ ⟨⟨_,rfl,rfl⟩,trivial⟩ ?_
 conv=>whnf
 refine⟨rfl,?_⟩
 rintro i ⟨hi,hall⟩
 conv=>whnf
 refine⟨fun h7=>?_,fun h7=>?_⟩
 ·have hi':i<q.start.length:=by simpa using h7
  conv=>whnf
  refine .mk (by simp only[Rw.rng] at *; omega) ?_
  conv=>whnf
  refine ah.pure (S.slices_Contains_int p.initial (q.start.getD i 0) false (by omega)) rfl ?_
  conv=>whnf
  refine⟨fun h8=>?_,fun h8=>?_⟩
  ·conv=>whnf
   exact ak.int (by rw[jo,h1,h2,h3,h45,h6,fQ (d:=0) hi' h8]; rfl)
  ·conv=>whnf
   refine .mk (by simp only[okI] at *; omega) ?_
   conv=>whnf
   refine⟨i+1,⟨by omega,?_⟩,by omega,⟨⟨_,rfl,rfl⟩,trivial⟩,?_,rfl⟩
   ·rw[jl (d:=0) hi' hall]; exact h8
   ·repeat' (first|exact trivial|exact⟨_,rfl,rfl⟩|constructor)
 have hi':q.start.length<=i:=by simpa using h7
 rw[List.take_of_length_le hi'] at hall
 conv=>whnf
 refine⟨fun h8=>?_,fun h8=>?_⟩
 ·conv=>whnf
  refine ah.pure (S.dQ q.goal p.states.length false (by omega)) rfl ?_
  conv=>whnf
  refine ah.pure (S.bU ((q.goal.length:Int)==0) 1) rfl ?_
  conv=>whnf
  refine ah.pure (S.bQ [dO q.goal p.states.length,dV ((q.goal.length:Int)==0) 1] true (show 2<2^40 by decide)) rfl ?_
  conv=>whnf
  exact ak.int (by rw[jo,h1,h2,h3,h45,h6,hall,h8]; rfl)
 conv=>whnf
 repeat(refine VC.mk id ?_; conv=>whnf)
 refine ah.pure (S.bU (((q.bad.length:Int)==0)&&((q.adjacent.length:Int)==0)) 1) rfl ?_
 conv=>whnf
 refine ah.pure (S.bU (decide ((q.bad.length:Int)>3)) 4) rfl ?_
 conv=>whnf
 refine ah.pure (S.lZ q.bad p.states.length false q2 hq.cnt) rfl ?_
 conv=>whnf
 refine ah.pure (S.kF p q.adjacent false q3) rfl ?_
 conv=>whnf
 refine ah.pure (S.bQ [dV (((q.bad.length:Int)==0)&&((q.adjacent.length:Int)==0)) 1,dV (decide ((q.bad.length:Int)>3)) 4,uF q.bad p.states.length,Gx p q.adjacent] true (show 4<2^40 by decide)) rfl ?_
 conv=>whnf
 exact ak.int (by rw[jo,h1,h2,h3,h45,h6,hall,h8]; rfl)
theorem S.DX(l:List Int)(s:Int)(f:Bool)(hl:l.length<2^40):aj Tryz.prog 136 [.row 0 f (.ints l),.int s] (.bool (GZ l s)):=by
 refine aj.of Bd.DX (by simp) rfl rfl ?_
 conv=>whnf
 refine aF.same [0,1] (fun i:Nat=>[(5,.int i)]) (fun i=>i<=l.length/\(l.take i).any (fun x=>s==x)=false) (fun i=>l.length-i) 0 rfl (by decide) rfl (fun _=>rfl) ⟨by omega,by simp⟩ ⟨⟨_,rfl,rfl⟩,trivial⟩ ?_
 conv=>whnf
 refine⟨rfl,?_⟩
 rintro i ⟨hi,hall⟩
 conv=>whnf
 refine⟨fun h3=>?_,fun h3=>?_⟩
 ·have hi':i<l.length:=by simpa using h3
  conv=>whnf
  refine .mk (by simp only[Rw.rng] at *; omega) ?_
  conv=>whnf
  refine⟨fun h4=>?_,fun h4=>?_⟩
  ·have h4':(s==l.getD i 0)=true:=by rw[show(s==l.getD i 0)=(l.getD i 0==s) from Bool.beq_comm]; exact h4
   conv=>whnf
   exact ak.bool (fQ (d:=0) hi' h4')
  ·have h4':(s==l.getD i 0)=false:=by rw[show(s==l.getD i 0)=(l.getD i 0==s) from Bool.beq_comm]; exact h4
   conv=>whnf
   refine .mk (by simp only[okI] at *; omega) ?_
   conv=>whnf
   refine⟨i+1,⟨by omega,?_⟩,by omega,⟨⟨_,rfl,rfl⟩,trivial⟩,?_,rfl⟩
   ·rw[jl (d:=0) hi' hall]; exact h4'
   ·repeat' (first|exact trivial|exact⟨_,rfl,rfl⟩|constructor)
 ·have hi':l.length<=i:=by simpa using h3
  rw[List.take_of_length_le hi'] at hall
  conv=>whnf
  exact ak.bool hall
theorem aae{p:aX}{l:List Int}(h1:(decide ((l.length:Int)>0)&&(p.topology==1))=false)(h2:((l.length:Int) !=0&&(l.length:Int) !=2)=false):Gx p l=bif l.any (fun x=>nK x p.states.length) then 5 else 0:=by
 unfold Gx
 rcases l with _|⟨a,_|⟨b,_|⟨c,r⟩⟩⟩
 ·rfl
 ·simp at h2
 ·have ht:(p.topology==1)=false:=by simpa using h1
  rw[ht]
  simp only[List.length_cons,List.length_nil,List.getD_cons_zero,List.getD_cons_succ,List.any_cons,List.any_nil,Bool.or_false,cZ]
  cases nK a p.states.length<;>cases nK b p.states.length<;>rfl
 ·simp at h2; omega
theorem Ro{c:Cnt}:oQ c=((c.states.length:Int)==0|| !(gQ c.least 1 3)):=by
 rw[oQ,ou,Bool.or_assoc]
theorem S.gy(p:aX)(q:Prop')(hp:dn p)(hq:jF q):aj Tryz.prog 85 [.dat (.bW p),.dat (.prop q)] (.int (jo p q)):=by
 have g1:=hp.states; have g5:=hp.initial
 have q1:=hq.start; have q2:=hq.bad; have q3:=hq.adjacent; have q4:=hq.goal
 refine aj.of Bd.gy (by simp) rfl rfl ?_
 conv=>whnf
 refine ah.pure (S.oz p hp) rfl ?_
 conv=>whnf
 refine⟨fun h1=>?_,fun h1=>?_⟩
 ·conv=>whnf
  exact ak.int (by rw[jo,h1]; rfl)
 conv=>whnf
 refine ah.pure (S.jA q.name) rfl ?_
 conv=>whnf
 refine⟨fun h2=>?_,fun h2=>?_⟩
 ·conv=>whnf
  exact ak.int (by rw[jo,h1,h2]; rfl)
 conv=>whnf
 repeat(refine VC.mk id ?_; conv=>whnf)
 refine⟨fun h3=>?_,fun h3=>?_⟩
 ·replace h3:(!(q.kind==1)&&q.kind !=2)=true:=h3
  conv=>whnf
  exact ak.int (by rw[jo,h1,h2,h3]; rfl)
 replace h3:(!(q.kind==1)&&q.kind !=2)=false:=h3
 have k2:(q.kind==2)= !(q.kind==1):=by
  cases e:(q.kind==1) with
  |true=>rw[beq_iff_eq.1 e]; rfl
  |false=>rw[e] at h3; simpa using h3
 conv=>whnf
 repeat(refine VC.mk (by first|exact id|(intro h; rw[h]; rfl)|(intro h; simp_all; done)) ?_; conv=>whnf)
 refine⟨fun h4=>?_,fun h4=>?_⟩
 ·rw[k2] at h4
  conv=>whnf
  exact ak.int (by rw[jo,h1,h2,h3,show uG q=true from h4]; rfl)
 rw[k2] at h4
 replace h4:uG q=false:=h4
 conv=>whnf
 refine ah.pure (S.iL q.start p.states.length false (by omega) (by omega)) rfl ?_
 conv=>whnf
 refine⟨fun h6=>?_,fun h6=>?_⟩
 ·conv=>whnf
  exact ak.int (by rw[jo,h1,h2,h3,h4,h6]; rfl)
 conv=>whnf
 refine aF.same [2,3,6] (fun i:Nat=>[(8,.int i)]) (fun i=>i<=q.start.length/\(q.start.take i).any (fun x=> !(GZ p.initial x))=false) (fun i=>q.start.length-i) 0 rfl (by decide) rfl (fun _=>rfl) ⟨by omega,by simp⟩ ⟨⟨_,rfl,rfl⟩,trivial⟩ ?_
 conv=>whnf
 refine⟨rfl,?_⟩
 rintro i ⟨hi,hall⟩
 conv=>whnf
 refine⟨fun h7=>?_,fun h7=>?_⟩
 ·have hi':i<q.start.length:=by simpa using h7
  conv=>whnf
  refine .mk (by simp only[Rw.rng] at *; omega) ?_
  conv=>whnf
  refine ah.pure (S.DX p.initial (q.start.getD i 0) false (by omega)) rfl ?_
  conv=>whnf
  refine⟨fun h8=>?_,fun h8=>?_⟩
  ·conv=>whnf
   exact ak.int (by rw[jo,h1,h2,h3,h4,h6,fQ (d:=0) hi' h8]; rfl)
  ·conv=>whnf
   refine .mk (by simp only[okI] at *; omega) ?_
   conv=>whnf
   refine⟨i+1,⟨by omega,?_⟩,by omega,⟨⟨_,rfl,rfl⟩,trivial⟩,?_,rfl⟩
   ·rw[jl (d:=0) hi' hall]; exact h8
   ·repeat' (first|exact trivial|exact⟨_,rfl,rfl⟩|constructor)
 have hi':q.start.length<=i:=by simpa using h7
 rw[List.take_of_length_le hi'] at hall
 clear h7 hi'
 conv=>whnf
 refine⟨fun h8=>?_,fun h8=>?_⟩
 ·have h8':(!(q.kind==1))=true:=by rw[<- k2]; exact h8
  have hS:jo p q=aT [dO q.goal p.states.length,dV ((q.goal.length:Int)==0) 1]:=by rw[jo,h1,h2,h3,h4,h6,hall,h8']; rfl
  rw[hS]
  conv=>whnf
  refine ah.pure (S.iL q.goal p.states.length false (by omega) (by omega)) rfl ?_
  conv=>whnf
  refine⟨fun h9=>?_,fun h9=>?_⟩
  ·conv=>whnf
   exact ak.int (fN (nz h9))
  rw[show dO q.goal p.states.length=0 from yF h9,f0]
  conv=>whnf
  refine⟨fun h10=>?_,fun h10=>?_⟩
  ·conv=>whnf
   exact ak.int (by rw[h10]; rfl)
  ·conv=>whnf
   exact ak.int (by rw[h10]; rfl)
 have h8':(!(q.kind==1))=false:=by rw[<- k2]; exact h8
 have hS:jo p q=aT [dV (((q.bad.length:Int)==0)&&((q.adjacent.length:Int)==0)) 1,dV (decide ((q.bad.length:Int)>3)) 4,uF q.bad p.states.length,Gx p q.adjacent]:=by rw[jo,h1,h2,h3,h4,h6,hall,h8']; rfl
 rw[hS]
 conv=>whnf
 repeat(refine VC.mk id ?_; conv=>whnf)
 refine⟨fun h9=>?_,fun h9=>?_⟩
 ·conv=>whnf
  exact ak.int (by rw[h9]; rfl)
 rw[h9,Ub]
 conv=>whnf
 refine⟨fun h10=>?_,fun h10=>?_⟩
 ·conv=>whnf
  exact ak.int (by rw[show decide ((q.bad.length:Int)>3)=true from h10]; rfl)
 rw[show decide ((q.bad.length:Int)>3)=false from h10,Ub]
 conv=>whnf
 refine aF.same [2,3,6] (fun i:Nat=>[(10,.int i)]) (fun i=>i<=q.bad.length/\uF q.bad p.states.length=aT ((q.bad.drop i).map (J4 p.states.length))) (fun i=>q.bad.length-i) 0 rfl (by decide) rfl (fun _=>rfl) ⟨by omega,by simp[uF]⟩ ⟨⟨_,rfl,rfl⟩,trivial⟩ ?_
 conv=>whnf
 refine⟨rfl,?_⟩
 rintro j ⟨hj,hcnt⟩
 conv=>whnf
 refine⟨fun h11=>?_,fun h11=>?_⟩
 ·have hj':j<q.bad.length:=by simpa using h11
  rw[bC default hj',List.map_cons] at hcnt
  simp only[aT] at hcnt
  have hc:=hq.cnt j
  conv=>whnf
  refine .mk (by simp only[Rw.rng] at *; omega) ?_
  conv=>whnf
  refine ah.pure (S.iL (q.bad.getD j default).states p.states.length false (by omega) (by omega)) rfl ?_
  conv=>whnf
  refine⟨fun h12=>?_,fun h12=>?_⟩
  ·conv=>whnf
   have e1:J4 p.states.length (q.bad.getD j default)=dO (q.bad.getD j default).states p.states.length:=fN (nz h12)
   rw[e1,if_neg (nz h12)] at hcnt
   exact ak.int (by rw[hcnt,fN (nz h12)])
  have XJ:dO (q.bad.getD j default).states p.states.length=0:=yF h12
  have e1:J4 p.states.length (q.bad.getD j default)=aT [dV (oQ (q.bad.getD j default)) 1]:=by rw[J4,XJ,f0]
  rw[e1,Ro] at hcnt
  conv=>whnf
  repeat(refine VC.mk (by first|exact id|(intro h; (repeat' apply And.intro)<;>first|exact h|omega|(simp only[Rw.lM]; omega)|(simp only[Rw.rng]; omega))|(simp only[Rw.rng] at *; omega)) ?_; conv=>whnf)
  refine ah.fG (fun _=>S.bG (q.bad.getD j default).least 1 3) rfl ?_
  conv=>whnf
  repeat(refine VC.mk (by first|exact id|(intro h; rw[h]; rfl)) ?_; conv=>whnf)
  refine⟨fun h13=>?_,fun h13=>?_⟩
  ·replace h13:(((q.bad.getD j default).states.length:Int)==0|| !(gQ (q.bad.getD j default).least 1 3))=true:=h13
   rw[h13] at hcnt
   conv=>whnf
   exact ak.int (by rw[hcnt]; rfl)
  ·replace h13:(((q.bad.getD j default).states.length:Int)==0|| !(gQ (q.bad.getD j default).least 1 3))=false:=h13
   rw[h13] at hcnt
   conv=>whnf
   refine .mk (by simp only[okI] at *; omega) ?_
   conv=>whnf
   refine⟨j+1,⟨by omega,hcnt⟩,by omega,⟨⟨_,rfl,rfl⟩,trivial⟩,?_,rfl⟩
   repeat' (first|exact trivial|exact⟨_,rfl,rfl⟩|constructor)
 have hj':q.bad.length<=j:=by simpa using h11
 rw[List.drop_eq_nil_of_le hj'] at hcnt
 rw[hcnt,show aT (List.map (J4 p.states.length) [])=0 from rfl,f0]
 conv=>whnf
 repeat(refine VC.mk id ?_; conv=>whnf)
 refine⟨fun h12=>?_,fun h12=>?_⟩
 ·replace h12:(decide ((q.adjacent.length:Int)>0)&&(p.topology==1))=true:=h12
  conv=>whnf
  rw[Bool.and_eq_true] at h12
  have:((q.adjacent.length:Int)==0)=false:=beq_eq_false_iff_ne.2 (by have:=of_decide_eq_true h12.1; omega)
  exact ak.int (by rw[Gx,this,h12.2]; rfl)
 replace h12:(decide ((q.adjacent.length:Int)>0)&&(p.topology==1))=false:=h12
 conv=>whnf
 repeat(refine VC.mk id ?_; conv=>whnf)
 refine⟨fun h13=>?_,fun h13=>?_⟩
 ·replace h13:((q.adjacent.length:Int) !=0&&(q.adjacent.length:Int) !=2)=true:=h13
  conv=>whnf
  rw[Bool.and_eq_true] at h13
  have e0:((q.adjacent.length:Int)==0)=false:=by simpa using h13.1
  have e1:(p.topology==1)=false:=by
   rw[Bool.and_eq_false_iff] at h12
   rcases h12 with h12|h12
   ·have:=of_decide_eq_false h12
    have:(q.adjacent.length:Int)≠0:=by simpa using e0
    omega
   ·exact h12
  exact ak.int (by rw[Gx,e0,e1,h13.2]; rfl)
 replace h13:((q.adjacent.length:Int) !=0&&(q.adjacent.length:Int) !=2)=false:=h13
 rw[aae h12 h13]
 conv=>whnf
 refine aF.same [2,3,6] (fun i:Nat=>[(12,.int i)]) (fun i=>i<=q.adjacent.length/\(q.adjacent.take i).any (fun x=>nK x p.states.length)=false) (fun i=>q.adjacent.length-i) 0 rfl (by decide) rfl (fun _=>rfl) ⟨by omega,by simp⟩ ⟨⟨_,rfl,rfl⟩,trivial⟩ ?_
 conv=>whnf
 refine⟨rfl,?_⟩
 rintro k ⟨hk,ab5⟩
 conv=>whnf
 refine⟨fun h14=>?_,fun h14=>?_⟩
 ·have hk':k<q.adjacent.length:=by simpa using h14
  conv=>whnf
  repeat(refine VC.mk (by simp only[okI,Rw.rng] at *; omega) ?_; conv=>whnf)
  refine ah.pure (S.bG (q.adjacent.getD k 0) 0 (p.states.length-1)) rfl ?_
  conv=>whnf
  refine⟨fun h15=>?_,fun h15=>?_⟩
  ·replace h15:(!(gQ (q.adjacent.getD k 0) 0 (p.states.length-1)))=true:=h15
   rw[vG] at h15
   conv=>whnf
   exact ak.int (by rw[fQ (d:=0) hk' h15]; rfl)
  ·replace h15:(!(gQ (q.adjacent.getD k 0) 0 (p.states.length-1)))=false:=h15
   rw[vG] at h15
   conv=>whnf
   refine .mk (by simp only[okI] at *; omega) ?_
   conv=>whnf
   refine⟨k+1,⟨by omega,?_⟩,by omega,⟨⟨_,rfl,rfl⟩,trivial⟩,?_,rfl⟩
   ·rw[jl (d:=0) hk' ab5]; exact h15
   ·repeat' (first|exact trivial|exact⟨_,rfl,rfl⟩|constructor)
 have hk':q.adjacent.length<=k:=by simpa using h14
 rw[List.take_of_length_le hk'] at ab5
 conv=>whnf
 exact ak.int (by rw[ab5]; rfl)
theorem ak.aaf{h:Hz}{j:Nat}{l:List Int}(q:h.get j=some (jm l)):ak (.row 0 false (.ints l)) (.own j) h:=⟨DV trivial q⟩
theorem ak.aeO{h:Hz}{k k':Nat}{r:Rw}(e:r.len=0):ak (.row k false r) (.row k' true .nil) h:=⟨by
 have:r.aW=[]:=List.eq_nil_of_length_eq_zero (by rw[Rw.fC]; exact e)
 show T.sub (fun _=>True) h.au (.sl k false r.aW) (.sl k' true [])
 rw[this]; simp[T.sub]⟩
theorem S.KQ(l:List Int)(f:Bool)(hl:l.length<2^30):aj Tryz.prog 112 [.row 0 f (.ints l)] (.row 0 false (.ints l)):=by
 refine aj.of Bd.iD (by simp) rfl rfl ?_
 conv=>whnf
 refine Rq.mk (fun hz=>?_) ?_
 ·conv=>whnf
  refine Fork.mk (fun _=>?_) (fun q=>absurd (q.symm.trans ((rfl:true=true))) Bool.false_ne_true)
  conv=>whnf
  exact ak.aeO hz
 ·conv=>whnf
  refine Fork.mk (fun q=>absurd (q.symm.trans ((rfl:false=false))).symm Bool.false_ne_true) (fun _=>?_)
  conv=>whnf
  refine .mk (by simp only[kU,kD,Rw.len]; omega) ?_
  conv=>whnf
  repeat(refine VC.mk (by simp only[kU,kD,Rw.len]; omega) ?_; conv=>whnf)
  exact ak.aaf rfl
theorem S.oC(l:List Int)(f:Bool)(hl:l.length<2^30):aj Tryz.prog 166 [.row 0 f (.ints l)] (.row 0 false (.ints l)):=by
 refine aj.of Bd.oC (by simp) rfl rfl ?_
 conv=>whnf
 refine .mk (by simp only[kU,kD,Rw.len]; omega) ?_
 conv=>whnf
 exact ak.aaf rfl
def qI(p:aX)(q:Prop'):List Int:=bif decide ((q.start.length:Int)>0) then q.start else p.initial
theorem Rt{p:aX}{q:Prop'}(h:jo p q=0):dH p=0:=by
 unfold jo at h
 obtain⟨h1,_⟩:=bz nz h
 exact yF h1
theorem S.mg(p:aX)(q:Prop')(hp:dn p)(hq:jF q)(hv:jo p q=0):aj Tryz.prog 97 [.dat (.bW p),.dat (.prop q)] (.fO [.row 0 false (.ints (qI p q)),.int 0]):=by
 have g5:=hp.initial; have q1:=hq.start
 refine aj.of Bd.mg (by simp) rfl rfl ?_
 conv=>whnf
 refine ah.pure (S.dP p q hp hq) rfl ?_
 conv=>whnf
 refine Fork.mk (fun q=>absurd (q.symm.trans ((by simp[hv]))).symm Bool.false_ne_true) (fun _=>?_)
 conv=>whnf
 refine⟨fun h2=>?_,fun h2=>?_⟩
 ·conv=>whnf
  refine ah.pure (S.KQ q.start false q1) rfl ?_
  conv=>whnf
  exact ak.eqv (by rw[qI,show decide ((q.start.length:Int)>0)=true from h2]; rfl)
 ·conv=>whnf
  refine ah.pure (S.KQ p.initial false g5) rfl ?_
  conv=>whnf
  exact ak.eqv (by rw[qI,show decide ((q.start.length:Int)>0)=false from h2]; rfl)
theorem S.mD(p:aX)(q:Prop')(hp:dn p)(hq:jF q):aj Tryz.prog 144 [.dat (.bW p),.dat (.prop q)] (.row 0 false (.ints (qI p q))):=by
 have g5:=hp.initial; have q1:=hq.start
 refine aj.of Bd.mD (by simp) rfl rfl ?_
 conv=>whnf
 refine⟨fun h2=>?_,fun h2=>?_⟩
 ·conv=>whnf
  refine ah.pure (S.oC q.start false q1) rfl ?_
  conv=>whnf
  exact ak.eqv (by rw[qI,show decide ((q.start.length:Int)>0)=true from h2]; rfl)
 ·conv=>whnf
  refine ah.pure (S.oC p.initial false g5) rfl ?_
  conv=>whnf
  exact ak.eqv (by rw[qI,show decide ((q.start.length:Int)>0)=false from h2]; rfl)
theorem S.vH(p:aX)(q:Prop')(hp:dn p)(hq:jF q)(hv:jo p q=0):aj Tryz.prog 101 [.dat (.bW p),.dat (.prop q)] (.fO [.row 0 false (.ints (qI p q)),.int 0]):=by
 refine aj.of Bd.vH (by simp) rfl rfl ?_
 conv=>whnf
 refine ah.pure (S.gy p q hp hq) rfl ?_
 conv=>whnf
 refine Fork.mk (fun q=>absurd (q.symm.trans ((by simp[hv]))).symm Bool.false_ne_true) (fun _=>?_)
 conv=>whnf
 refine ah.pure (S.mD p q hp hq) rfl ?_
 conv=>whnf
 exact ak.eqv rfl
theorem KR{p:aX}{q:Prop'}(hp:dn p)(hq:jF q):(qI p q).length<2^30:=by
 unfold qI
 cases decide ((q.start.length:Int)>0)
 ·exact hp.initial
 ·exact hq.start
end Go.Proofs.YtifbibbicplneaaGreatDoor
