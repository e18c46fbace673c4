/-
 A part of the proof. No condition.
-/
import Derived.Test.YtajmbgljnaljiaaGreatDoorRb
import Derived.Test.YtajmbgljnaljiaaGreatDoorLg
import Derived.Test.YtajmbgljnaljiaaGreatDoorKa
namespace Go.Proofs.YtajmbgljnaljiaaGreatDoor
open Go.Ab Go.Proofs
set_option maxRecDepth 100000
def DY(s:Int):List Int->Nat->Int
 |[],_=> -1
 |x::r,i=>bif s==x then(i:Int) else DY s r (i+1)
theorem Yq{s:Int}{l:List Int}:decide (0<=DY s l 0)=l.any fun x=>s==x:=by
 have: ∀ {l:List Int} {i:Nat},0<=DY s l i↔(l.any fun x=>s==x)=true:=by
  intro l
  induction l with
  |nil=>intro i; simp[DY]
  |cons x r ih =>
   intro i
   rw[List.any_cons,Bool.or_eq_true,<- ih (i:=i+1)]
   show(0:Int)<=(bif s==x then(i:Int) else DY s r (i+1))↔_
   generalize (s==x)=b
   cases b<;>simp
 rw[Bool.eq_iff_iff,decide_eq_true_eq]; exact this
theorem S.slices_Index_int(l:List Int)(s:Int)(f:Bool)(hl:l.length<2^40):aj Tryz.prog 108 [.row 0 f (.ints l),.int s] (.int (DY s l 0)):=by
 refine aj.of Bd.iR (by simp) rfl rfl ?_
 conv=>whnf
 refine aI.same [0,1,6,7] (fun i:Nat=>[(8,.int i)]) (fun i=>i<=l.length/\DY s l 0=DY s (l.drop i) i) (fun i=>l.length-i) 0 rfl (by decide) rfl (fun _=>rfl) ⟨by omega,by simp⟩ ⟨⟨_,rfl,rfl⟩,trivial⟩ ?_
 conv=>whnf
 refine⟨rfl,?_⟩
 rintro i ⟨hi,hall⟩
 conv=>whnf
 refine⟨fun h3=>?_,fun h3=>?_⟩
 ·have hi':i<l.length:=by simpa using h3
  rw[dO 0 hi'] at hall
  simp only[DY] at hall
  conv=>whnf
  refine .mk (by simp only[Rw.rng] at *; first|omega|(simp_all; done)|(simp_all; omega)) ?_
  conv=>whnf
  refine⟨fun h4=>?_,fun h4=>?_⟩
  ·conv=>whnf
   refine ak.int ?_
   have h4':(s==l.getD i 0)=true:=h4
   rw[hall,h4']; rfl
  ·conv=>whnf
   refine .mk (by simp only[okI] at *; first|omega|(simp_all; done)|(simp_all; omega)) ?_
   conv=>whnf
   refine⟨i+1,⟨by omega,?_⟩,by omega,⟨⟨_,rfl,rfl⟩,trivial⟩,?_,rfl⟩
   ·have h4':(s==l.getD i 0)=false:=h4
    rw[hall,h4']; rfl
   ·repeat' (first|exact trivial|exact⟨_,rfl,rfl⟩|constructor)
 ·conv=>whnf
  refine ak.int ?_
  have hi':l.length<=i:=by simpa using h3
  rw[hall,List.drop_eq_nil_of_le hi']; rfl
def yL(l:List Int)(s:Int):Bool:=l.any fun x=>s==x
theorem S.slices_Contains_int(l:List Int)(s:Int)(f:Bool)(hl:l.length<2^40):aj Tryz.prog 74 [.row 0 f (.ints l),.int s] (.bool (yL l s)):=by
 refine aj.of Bd.gu (by simp) rfl rfl ?_
 conv=>whnf
 refine ah.pure (S.slices_Index_int l s f hl) rfl ?_
 conv=>whnf
 exact ak.bool Yq.symm
theorem S.CJ(l:List Int)(s:Int)(f:Bool)(hl:l.length<2^40):aj Tryz.prog 147 [.row 0 f (.ints l),.int s] (.bool (yL l s)):=by
 refine aj.of Bd.CJ (by simp) rfl rfl ?_
 conv=>whnf
 refine aI.same [0,1] (fun i:Nat=>[(5,.int i)]) (fun i=>i<=l.length/\(l.take i).any (fun x=>s==x)=false) (fun i=>l.length-i) 0 rfl (by decide) rfl (fun _=>rfl) ⟨by omega,by simp⟩ ⟨⟨_,rfl,rfl⟩,trivial⟩ ?_
 conv=>whnf
 refine⟨rfl,?_⟩
 rintro i ⟨hi,hall⟩
 conv=>whnf
 refine⟨fun h3=>?_,fun h3=>?_⟩
 ·have hi':i<l.length:=by simpa using h3
  conv=>whnf
  refine .mk (by simp only[Rw.rng] at *; first|omega|(simp_all; done)|(simp_all; omega)) ?_
  conv=>whnf
  refine⟨fun h4=>?_,fun h4=>?_⟩
  ·have h4':(s==l.getD i 0)=true:=by rw[show(s==l.getD i 0)=(l.getD i 0==s) from Bool.beq_comm]; exact h4
   conv=>whnf
   exact ak.bool (gI (d:=0) hi' h4')
  ·have h4':(s==l.getD i 0)=false:=by rw[show(s==l.getD i 0)=(l.getD i 0==s) from Bool.beq_comm]; exact h4
   conv=>whnf
   refine .mk (by simp only[okI] at *; first|omega|(simp_all; done)|(simp_all; omega)) ?_
   conv=>whnf
   refine⟨i+1,⟨by omega,?_⟩,by omega,⟨⟨_,rfl,rfl⟩,trivial⟩,?_,rfl⟩
   ·rw[jE (d:=0) hi' hall]; exact h4'
   ·repeat' (first|exact trivial|exact⟨_,rfl,rfl⟩|constructor)
 ·have hi':l.length<=i:=by simpa using h3
  rw[List.take_of_length_le hi'] at hall
  conv=>whnf
  exact ak.bool hall
def DZ(c l:List Int):Bool:=l.any fun q=>decide (c.getD q.toNat 0>0)
def qG(n:Nat)(l:List Int):Prop:= ∀ q∈l,0<=q/\q<n
theorem S.vw(c l:List Int)(f g:Bool)(_hc:c.length<2^40)(hl:l.length<2^40)(hp:qG c.length l):aj Tryz.prog 119 [.row 0 f (.ints c),.row 0 g (.ints l)] (.bool (DZ c l)):=by
 refine aj.of Bd.vw (by simp) rfl rfl ?_
 conv=>whnf
 refine aI.same [0,1] (fun i:Nat=>[(5,.int i)]) (fun i=>i<=l.length/\(l.take i).any (fun q=>decide (c.getD q.toNat 0>0))=false) (fun i=>l.length-i) 0 rfl (by decide) rfl (fun _=>rfl) ⟨by omega,by simp⟩ ⟨⟨_,rfl,rfl⟩,trivial⟩ ?_
 conv=>whnf
 refine⟨rfl,?_⟩
 rintro i ⟨hi,hall⟩
 conv=>whnf
 refine⟨fun h3=>?_,fun h3=>?_⟩
 ·have hi':i<l.length:=by simpa using h3
  have hq:0<=l.getD i 0/\l.getD i 0<c.length:=by
   rw[show l.getD i 0=l[i] by simp[hi']]; exact hp _ (List.getElem_mem hi')
  conv=>whnf
  repeat(refine VC.mk (by simp only[Rw.rng] at *; first|omega|(simp_all; done)|(simp_all; omega)) ?_; conv=>whnf)
  refine⟨fun h4=>?_,fun h4=>?_⟩
  ·conv=>whnf
   exact ak.bool (gI (d:=0) hi' h4)
  ·conv=>whnf
   refine .mk (by simp only[okI] at *; first|omega|(simp_all; done)|(simp_all; omega)) ?_
   conv=>whnf
   refine⟨i+1,⟨by omega,?_⟩,by omega,⟨⟨_,rfl,rfl⟩,trivial⟩,?_,rfl⟩
   ·rw[jE (d:=0) hi' hall]; exact h4
   ·repeat' (first|exact trivial|exact⟨_,rfl,rfl⟩|constructor)
 ·have hi':l.length<=i:=by simpa using h3
  rw[List.take_of_length_le hi'] at hall
  conv=>whnf
  exact ak.bool hall
def zQ(c l:List Int):Bool:=(List.range c.length).any fun i=>decide (c.getD i 0>0)&& !(yL l i)
theorem S.nK(c l:List Int)(f g:Bool)(hc:c.length<2^40)(hl:l.length<2^40):aj Tryz.prog 120 [.row 0 f (.ints c),.row 0 g (.ints l)] (.bool (zQ c l)):=by
 refine aj.of Bd.nK (by simp) rfl rfl ?_
 conv=>whnf
 refine aI.same [0,1] (fun i:Nat=>[(5,.int i)]) (fun i=>i<=c.length/\(List.range i).any (fun i=>decide (c.getD i 0>0)&& !(yL l i))=false) (fun i=>c.length-i) 0 rfl (by decide) rfl (fun _=>rfl) ⟨by omega,by simp⟩ ⟨⟨_,rfl,rfl⟩,trivial⟩ ?_
 conv=>whnf
 refine⟨rfl,?_⟩
 rintro i ⟨hi,hall⟩
 conv=>whnf
 refine⟨fun h3=>?_,fun h3=>?_⟩
 ·have hi':i<c.length:=by simpa using h3
  conv=>whnf
  repeat(refine VC.mk (by first|exact fun h=>⟨h,h⟩|(simp only[Rw.rng] at *; first|omega|(simp_all; done)|(simp_all; omega))) ?_; conv=>whnf)
  refine ah.iD (fun _=>S.CJ l i g hl) rfl ?_
  conv=>whnf
  repeat(refine VC.mk id ?_; conv=>whnf)
  refine⟨fun h4=>?_,fun h4=>?_⟩
  ·conv=>whnf
   exact ak.bool (nT.2 ⟨i,hi',h4⟩)
  ·conv=>whnf
   refine .mk (by simp only[okI] at *; first|omega|(simp_all; done)|(simp_all; omega)) ?_
   conv=>whnf
   refine⟨i+1,⟨by omega,?_⟩,by omega,⟨⟨_,rfl,rfl⟩,trivial⟩,?_,rfl⟩
   ·rw[List.range_succ,List.any_append,hall]
    simp only[List.any_cons,List.any_nil,Bool.or_false,Bool.false_or]; exact h4
   ·repeat' (first|exact trivial|exact⟨_,rfl,rfl⟩|constructor)
 ·have hi':c.length<=i:=by simpa using h3
  have e:i=c.length:=Nat.le_antisymm hi hi'
  subst e
  conv=>whnf
  exact ak.bool hall
def wY(ex c:List Int)(i:Nat):Bool:=((ex.length:Int)==0)||(List.range i).any fun j=> !(c.getD j 0==0)&&yL ex j
def zL(al c:List Int)(i:Nat):Bool:=(List.range i).any fun j=> !(c.getD j 0==0)&&(decide ((al.length:Int)>0)&& !(yL al j))
def wW(r:Rule)(c:List Int):Bool:= !(zL r.all c c.length)&&wY r.ex c c.length
theorem Ig{ex c:List Int}{i:Nat}:wY ex c (i+1)=(wY ex c i||(!(c.getD i 0==0)&&yL ex i)):=by
 simp only[wY,List.range_succ,List.any_append,List.any_cons,List.any_nil,Bool.or_false,Bool.or_assoc]
theorem Ie{al c:List Int}{i:Nat}:zL al c (i+1)=(zL al c i||(!(c.getD i 0==0)&&(decide ((al.length:Int)>0)&& !(yL al i)))):=by
 simp only[zL,List.range_succ,List.any_append,List.any_cons,List.any_nil,Bool.or_false]
theorem OM{al c:List Int}{i:Nat}(hi:i<c.length)(h0:(c.getD i 0==0)=false)(h:(decide ((al.length:Int)>0)&& !(yL al i))=true):zL al c c.length=true :=
 nT.2 ⟨i,hi,by rw[h0,h]; rfl⟩
structure zK(n:Nat)(r:Rule):Prop where
 src:0<=r.fr/\r.fr<n
 dst:0<=r.to/\r.to<n
 aaP:0<=r.gB/\r.gB<n
 aaQ:0<=r.AB/\r.AB<n
 rsp:r.kind=3->r.response.length=n/\qG n r.response
 exs:qG n r.ex
def F7(c:List Int):Prop:= ∀ x∈c,0<=x/\x<=1048576
def gU(c:List Int)(i d:Int):List Int:=c.set i.toNat (c.getD i.toNat 0+d)
def aQ(c:List Int)(i:Int):List Int:=c.set i.toNat (c.getD i.toNat 0-1)
def oH(r:Rule)(c:List Int)(i:Nat):List Int:=(List.range i).foldl (fun a j=>gU a (r.response.getD j 0) (c.getD j 0)) (List.replicate c.length 0)
def gG(r:Rule)(e:Elem):Option Elem :=
 let c1:=aQ e.counts r.fr
 let out (c:List Int):Option Elem:=some ⟨bif decide (r.write>=0) then r.write else e.value,gU c r.to 1⟩
 bif (decide (0<=r.read)&&e.value !=r.read||e.counts.getD r.fr.toNat 0==0) then none else
 bif r.kind==1 then(bif !(wW r c1) then none else out c1) else
 bif r.kind==2 then(bif c1.getD r.gB.toNat 0==0 then none else out (gU (aQ c1 r.gB) r.AB 1)) else
 bif r.kind==3 then out (oH r c1 c1.length) else out c1
def gV(r:Rule)(e:Elem):V:=match gG r e with
 |none=>.fP [.agg [.int 0,.row 0 true .nil],.bool false]
 |some x=>.fP [.dat (.elem x),.bool true]
theorem Ih(r:Rule)(e:Elem):(gV r e).free=true:=by
 unfold gV; cases gG r e<;>rfl
def KT(r:Rule)(e:Elem):V:=.fP [.dat (.elem ((gG r e).getD ⟨0,[]⟩)),.bool (gG r e).isSome]
theorem VZ{Z:Nat->Prop}{h:Hp}(r:Rule)(e:Elem):T.sub Z h (KT r e).aG (gV r e).aG:=by
 unfold KT gV
 cases gG r e with
 |none =>
  show T.sub Z h (.fP [.agg [.int 0,.sl 0 false []],.bool false]) (.fP [.agg [.int 0,.sl 0 true []],.bool false])
  simp[T.sub,T.dM]
 |some x=>exact dP _
theorem aj.KT{f:FuncId}{r:Rule}{e:Elem}(S:aj Tryz.prog f [.dat (.rule r),.dat (.elem e)] (gV r e)):aj Tryz.prog f [.dat (.rule r),.dat (.elem e)] (KT r e) :=
 qY.shut S (fun _=>VZ r e) rfl
theorem F7.get{c:List Int}(h:F7 c){i:Nat}(hi:i<c.length):0<=c.getD i 0/\c.getD i 0<=1048576:=by
 rw[show c.getD i 0=c[i] by simp[hi]]; exact h _ (List.getElem_mem hi)
theorem F8{h:Hz}{j:Nat}{Z:Nat->Prop}{l:List Int}(hz:Z j)(q:h.get j=some (.row 3 0 (.ints l) [])):T.sub Z h.ay (V.row 0 false (.ints l)).aG (V.own j).aG:=by
 show T.sub Z h.ay (.sl 0 false (l.map T.int)) (.own j)
 simp only[T.sub]
 refine⟨trivial,hz,?_,by decide,3,?_⟩
 ·rw[fU]; intro t ht; obtain⟨x,_,rfl⟩:=List.mem_map.1 ht; rfl
 ·have:=aZ q
  rw[this]; simp[OV.aF,Rw.bn,V.bn]
def okB(b:Int)(c:List Int):Prop:= ∀ x∈c,-b<=x/\x<=b
theorem okB.get{b:Int}{c:List Int}(h:okB b c)(hb:0<=b)(i:Nat): -b<=c.getD i 0/\c.getD i 0<=b:=by
 by_cases hi:i<c.length
 ·rw[show c.getD i 0=c[i] by simp[hi]]; exact h _ (List.getElem_mem hi)
 ·rw[show c.getD i 0=0 by simp[List.getD_eq_getElem?_getD,List.getElem?_eq_none (by omega:c.length<=i)]]; omega
theorem okB.add{b k:Int}{c:List Int}(h:okB b c)(hb:0<=b)(i d:Int)(hd: -k<=d/\d<=k):okB (b+k) (gU c i d):=by
 intro x hx
 have hk:0<=k:=by omega
 rcases List.mem_or_eq_of_mem_set hx with hx|rfl
 ·have:=h x hx; omega
 ·have:=h.get hb i.toNat; omega
theorem okB.dec{b:Int}{c:List Int}(h:okB b c)(hb:0<=b)(i:Int):okB (b+1) (aQ c i):=by
 have:=h.add hb i (-1) (k:=1) ⟨by omega,by omega⟩
 rw[show aQ c i=gU c i (-1) by simp only[aQ,gU]; rfl]; exact this
theorem F7.b{c:List Int}(h:F7 c):okB 1048576 c:=fun x hx=>by have:=h x hx; omega
theorem ak.wC{h:Hz}{j:Nat}{v:Int}{l:List Int}(q:h.get j=some (.row 3 0 (.ints l) [])):ak (.fP [.dat (.elem ⟨v,l⟩),.bool true]) (.fP [.agg [.int v,.own j],.bool true]) h:=⟨by
 show T.sub (fun _=>True) h.ay (.fP [.agg [.int v,.sl 0 false (l.map T.int)],.bool true]) (.fP [.agg [.int v,.own j],.bool true])
 have:=F8 (Z:=fun _=>True) trivial q
 replace this:T.sub (fun _=>True) h.ay (.sl 0 false (l.map T.int)) (.own j):=this
 simp only[T.sub] at this
 simp only[T.sub,T.dM]
 exact⟨⟨trivial,this,trivial⟩,trivial,trivial⟩⟩
theorem Dy{n:Nat}(h:0<n):(bif isZero (.int n) then some Rw.nil else XZ (n:Int).toNat (T.int 0))=some (.ints (List.replicate n 0)):=by
 cases n with
 |zero=>omega
 |succ k=>rfl
theorem uH{r:Rule}{c:List Int}{i:Nat}:oH r c (i+1)=gU (oH r c i) (r.response.getD i 0) (c.getD i 0):=by
 simp only[oH,List.range_succ,List.foldl_append,List.foldl_cons,List.foldl_nil]
theorem qH{r:Rule}{c:List Int}{i:Nat}:(oH r c i).length=c.length:=by
 induction i with
 |zero=>simp[oH]
 |succ i ih=>rw[uH]; simp[gU,ih]
theorem XP{r:Rule}{c:List Int}{b:Int}(h:okB b c)(hb:0<=b)(i:Nat):okB (i*b) (oH r c i):=by
 induction i with
 |zero=>intro x hx; simp[oH] at hx; omega
 |succ i ih =>
  rw[uH]
  have h0:0<=(i:Int)*b:=Int.mul_nonneg (by omega) hb
  have:=ih.add h0 (r.response.getD i 0) (c.getD i 0) (k:=b) (h.get hb i)
  rw[show((i+1:Nat):Int)*b=i*b+b by rw[Int.natCast_add,Int.add_mul]; simp]; exact this
abbrev vZ(l:List Int):OV:=.row 3 0 (.ints l) []
theorem S.V3(e:Elem)(he:e.counts.length<2^30)(n:Nat):aN Tryz.prog 27 (V.bn [.dat (.elem e)]) (Hz.ay []) n (fun t hp=>t= .agg [.int e.value,.own n]/\hp=Hz.ay [(n,some (vZ e.counts))]):=by
 refine oI.of (nx:=0) Bd.oJ (by simp) ⟨_,_,rfl,rfl⟩ rfl rfl ?_
 conv=>whnf
 refine .mk (by simp only[nG,og,Rw.len]; omega) ?_
 conv=>whnf
 exact ny.one (c:=n) (j:=7) (o:=vZ e.counts) (t:=.agg [.int e.value,.own n]) rfl rfl rfl nofun (.inr rfl) ⟨trivial,rfl,trivial⟩ (.eq rfl) ⟨rfl,rfl⟩
theorem S.AA(e:Elem)(he:e.counts.length<2^30):qY Tryz.prog 27 [eG e] (fun n=>.agg [.int e.value,.own n]) (some ⟨3,0,e.counts.map T.int⟩):=by
 refine⟨by exact V.kZ [.dat (.elem e)] rfl,fun n=>⟨trivial,rfl,trivial⟩,fun ob h=>?_,fun ob h=>?_,fun n=>?_⟩
 ·cases h
  show T.bC (e.counts.map T.int)=true
  rw[fU]; intro t ht; obtain⟨x,_,rfl⟩:=List.mem_map.1 ht; rfl
 ·cases h; exact show(0:Nat)≠dI by decide
 ·have:=S.V3 e he n
  have e1:Hz.ay [(n,some (vZ e.counts))]=fO no n (some ⟨3,0,e.counts.map T.int⟩):=by
   rw[bQ]; simp[fO,OV.aF,Rw.bn,V.bn]; rfl
  rw[e1] at this
  exact this
theorem GY{h:Hz}{n:Nat}{l:List Int}:fO h.ay n (some ⟨3,0,l.map T.int⟩)=Hz.ay ((n,some (vZ l))::h):=by
 rw[bQ]; simp[fO,OV.aF,Rw.bn,V.bn]
theorem lt1{x:Int}(h:0<=x):decide (x<1)=(x==0):=by
 rw[Bool.eq_iff_iff]; simp; omega
theorem abe{l:List Int}{s:Int}:yL l s=true↔s∈l:=by
 simp only[yL,List.any_eq_true,beq_iff_eq]
 constructor
 ·rintro⟨x,h,rfl⟩; exact h
 ·intro h; exact⟨s,h,rfl⟩
theorem Yr{al c:List Int}(hc: ∀ i,0<=c.getD i 0):zL al c c.length=(decide (0<(al.length:Int))&&zQ c al):=by
 rw[Bool.eq_iff_iff,Bool.and_eq_true]
 simp only[zL,zQ,nT,Bool.and_eq_true,decide_eq_true_eq,Bool.not_eq_true',beq_eq_false_iff_ne,ne_eq]
 constructor
 ·rintro⟨i,h1,h2,h3,h4⟩
  exact⟨h3,i,h1,by have:=hc i; omega,h4⟩
 ·rintro⟨h3,i,h1,h2,h4⟩
  exact⟨i,h1,by omega,h3,h4⟩
theorem found_eq{ex c:List Int}(hc: ∀ i,0<=c.getD i 0)(hx:qG c.length ex):(!(wY ex c c.length))=(decide (0<(ex.length:Int))&& !(DZ c ex)):=by
 have h:wY ex c c.length=(!(decide (0<(ex.length:Int)))||DZ c ex):=by
  rw[wY]
  congr 1
  ·rw[Bool.eq_iff_iff]; simp
  ·rw[Bool.eq_iff_iff]
   simp only[DZ,List.mem_range,Bool.and_eq_true,decide_eq_true_eq,Bool.not_eq_true',beq_eq_false_iff_ne,ne_eq,List.any_eq_true,abe]
   constructor
   ·rintro⟨i,h1,h2,h3⟩
    exact⟨i,h3,by have:=hc i; simp only[Int.toNat_natCast]; omega⟩
   ·rintro⟨q,h1,h2⟩
    obtain⟨t1,t2⟩:=hx q h1
    have t3:q.toNat<c.length:=by omega
    have t4: ¬ c.getD q.toNat 0=0:=by omega
    exact⟨q.toNat,t3,t4,by rw[Int.toNat_of_nonneg t1]; exact h1⟩
 rw[h]; cases decide (0<(ex.length:Int))<;>cases DZ c ex<;>rfl
theorem PN{r:Rule}{c:List Int}(hc: ∀ i,0<=c.getD i 0)(hx:qG c.length r.ex) :
  ((decide (0<(r.ex.length:Int))&& !(DZ c r.ex))||(decide (0<(r.all.length:Int))&&zQ c r.all))= !(wW r c):=by
 rw[wW,Bool.not_and,Bool.not_not,Yr hc,found_eq hc hx,Bool.or_comm]
theorem Uf{r:Rule}{e:Elem}(hc:F7 e.counts)(h1:(decide (0<=r.read)&&e.value !=r.read||e.counts.getD r.fr.toNat 0==0)=false)(i:Nat):0<=(aQ e.counts r.fr).getD i 0:=by
 have h0: ∀ j,0<=e.counts.getD j 0:=fun j=>by
  by_cases hj:j<e.counts.length
  ·exact(hc.get hj).1
  ·rw[show e.counts.getD j 0=0 by simp[List.getD_eq_getElem?_getD,List.getElem?_eq_none (by omega:e.counts.length<=j)]]; omega
 have h2:e.counts.getD r.fr.toNat 0≠0:=by
  rw[Bool.or_eq_false_iff] at h1
  have:=h1.2
  simpa using this
 have h3:=h0 r.fr.toNat
 have h4:=h0 i
 rw[aQ,List.getD_eq_getElem?_getD,List.getElem?_set]
 split
 ·split
  ·simp only[Option.getD_some]; omega
  ·simp
 ·rw[<- List.getD_eq_getElem?_getD]; exact h4
theorem okF{ρ:Nat->Nat}{nx pn c n:Nat}{h:Hz}{s:List Nat}{o o':OV}(q1:Nat.blt c nx=true)(q2:Nat.blt c pn=true->n=c)(q3:DK n s=true)(q4:(o.good nx&&o.Rj)=true)(q5:h.get n=some o')
  (q6:o'.aF.ty=o.aF.ty/\o'.aF.k=o.aF.k) (q7:o.aF.l=o'.aF.l):Nat.blt c nx=true/\(Nat.blt c pn=true->n=c)/\DK n s=true/\o.good nx=true /\
   ∃ o',h.get n=some o'/\o'.aF.ty=o.aF.ty/\o'.aF.k=o.aF.k/\dN (T.dQ ρ o.aF.l) o'.aF.l:=by
 rw[Bool.and_eq_true] at q4
 exact⟨q1,q2,q3,q4.1,o',q5,q6.1,q6.2,dN.of_eq ((OV.DL q4.2 ρ).trans q7)⟩
set_option maxHeartbeats 1000000 in
theorem S.uZ(r:Rule)(e:Elem)(hr:wX r)(hp:zK e.counts.length r)(hc:F7 e.counts)(hl:e.counts.length<=6):aj Tryz.prog 87 [.dat (.rule r),.dat (.elem e)] (gV r e):=by
 obtain⟨f1,f2⟩:=hp.src
 obtain⟨d1,d2⟩:=hp.dst
 obtain⟨p1,p2⟩:=hp.aaP
 obtain⟨q1,q2⟩:=hp.aaQ
 have hfr:=hc.get (i:=r.fr.toNat) (by omega)
 refine aj.of Bd.uZ (by simp) rfl (Ih r e) ?_
 conv=>whnf
 repeat(refine VC.mk (by first|exact id|exact fun h=>⟨h,h⟩|(intro h; rw[h]; rfl)|(intro h; (repeat' apply And.intro)<;>first|exact h|omega|(simp only[Rw.qp]; omega)|(simp only[Rw.rng]; omega))) ?_; conv=>whnf)
 refine⟨fun h1=>?_,fun h1=>?_⟩
 ·conv=>whnf
  refine ak.eqv ?_
  rw[lt1 hfr.1] at h1
  rw[gV,gG,h1]; rfl
 rw[lt1 hfr.1] at h1
 conv=>whnf
 refine ah.heap (qY.frame (S.AA e (by omega)) _ _) ?_
 rintro t hp ⟨rfl,rfl⟩
 refine⟨.agg [.int e.value,.own 24],(24,some (vZ e.counts))::_,rfl,GY,?_⟩
 have hl1:(aQ e.counts r.fr).length=e.counts.length:=by simp[aQ]
 conv=>whnf
 repeat(refine VC.mk (by first|(first|(simp only[Rw.rng]; omega)|(simp only[okI,aQ] at *; omega))|exact fun h=>h|exact fun h=>⟨h,h⟩) ?_; conv=>whnf)
 have hex:=hr.ex
 have hal:=hr.all
 refine ah.Yt (fun _=>S.vw (aQ e.counts r.fr) r.ex false false (by omega) (by omega) (by rw[hl1]; exact hp.exs)) (fun _=>And.intro (F8 trivial rfl) (And.intro (dP _) trivial)) rfl rfl ?_
 conv=>whnf
 repeat(refine VC.mk (by first|exact id|exact fun h=>⟨h,h⟩|(intro h; simp[h]; done)) ?_; conv=>whnf)
 refine ah.Yt (fun _=>S.nK (aQ e.counts r.fr) r.all false false (by omega) (by omega)) (fun _=>And.intro (F8 trivial rfl) (And.intro (dP _) trivial)) rfl rfl ?_
 conv=>whnf
 repeat(refine VC.mk (by cases (r.kind==1)<;>cases (decide (0<(r.ex.length:Int))&& !DZ (aQ e.counts r.fr) r.ex)<;>simp) ?_; conv=>whnf)
 have hpos: ∀ i,0<=(aQ e.counts r.fr).getD i 0:=Uf hc h1
 refine⟨fun h2=>?_,fun h2=>?_⟩
 ·replace h2:((r.kind==1)&&((decide (0<(r.ex.length:Int))&& !(DZ (aQ e.counts r.fr) r.ex))||(decide (0<(r.all.length:Int))&&zQ (aQ e.counts r.fr) r.all)))=true:=h2
  rw[PN hpos (by rw[hl1]; exact hp.exs),Bool.and_eq_true] at h2
  conv=>whnf
  refine ak.eqv ?_
  rw[gV,gG,h1,h2.1,h2.2]; rfl
 replace h2:((r.kind==1)&&((decide (0<(r.ex.length:Int))&& !(DZ (aQ e.counts r.fr) r.ex))||(decide (0<(r.all.length:Int))&&zQ (aQ e.counts r.fr) r.all)))=false:=h2
 rw[PN hpos (by rw[hl1]; exact hp.exs)] at h2
 conv=>whnf
 refine⟨fun h5=>?_,fun h5=>?_⟩
 ·replace h5:(r.kind==2)=true:=h5
  have hB:=hc.b.dec (by omega) r.fr
  have hB1:=hB.get (by omega) r.gB.toNat
  have hB2:=hB.dec (by omega) r.gB
  have hB3:=hB2.get (by omega) r.AB.toNat
  have hB4:=hB2.add (by omega) r.AB 1 (k:=1) ⟨by omega,by omega⟩
  have hB5:=hB4.get (by omega) r.to.toNat
  have h12:(r.kind==1)=false:=by rw[beq_iff_eq.1 h5]; rfl
  conv=>whnf
  repeat(refine VC.mk (by first|(simp only[Rw.rng,List.length_set]; omega)|(simp only[aQ,gU] at *; omega)) ?_; conv=>whnf)
  refine⟨fun h6=>?_,fun h6=>?_⟩
  ·replace h6:decide ((aQ e.counts r.fr).getD r.gB.toNat 0<1)=true:=h6
   rw[lt1 (hpos _)] at h6
   conv=>whnf
   refine ak.eqv ?_
   rw[gV,gG,h1,h12,h5,h6]; rfl
  ·replace h6:decide ((aQ e.counts r.fr).getD r.gB.toNat 0<1)=false:=h6
   rw[lt1 (hpos _)] at h6
   have h13:(r.kind==3)=false:=by rw[beq_iff_eq.1 h5]; rfl
   conv=>whnf
   repeat(refine VC.mk (by first|(simp only[Rw.rng,List.length_set]; omega)|(simp only[okI,aQ,gU] at *; omega)) ?_; conv=>whnf)
   refine Fork.mk (fun q=>absurd (q.symm.trans (h13)).symm Bool.false_ne_true) (fun _=>?_)
   conv=>whnf
   repeat(refine VC.mk (by simp only[okI,Rw.rng] at *; first|omega|(simp_all; done)|(simp_all; omega)) ?_; conv=>whnf)
   conv=>whnf
   repeat(refine VC.mk (by first|(simp only[Rw.rng,List.length_set]; omega)|(simp only[okI,aQ,gU] at *; omega)) ?_; conv=>whnf)
   refine⟨fun h4=>?_,fun h4=>?_⟩
   ·replace h4:decide (r.write>=0)=true:=h4
    have hS:gV r e= .fP [.dat (.elem ⟨r.write,gU (gU (aQ (aQ e.counts r.fr) r.gB) r.AB 1) r.to 1⟩),.bool true]:=by rw[gV,gG,h1,h12,h5,h6,h4]; rfl
    conv=>whnf
    rw[hS]
    exact ak.wC rfl
   ·replace h4:decide (r.write>=0)=false:=h4
    have hS:gV r e= .fP [.dat (.elem ⟨e.value,gU (gU (aQ (aQ e.counts r.fr) r.gB) r.AB 1) r.to 1⟩),.bool true]:=by rw[gV,gG,h1,h12,h5,h6,h4]; rfl
    conv=>whnf
    rw[hS]
    exact ak.wC rfl
 ·replace h5:(r.kind==2)=false:=h5
  conv=>whnf
  refine⟨fun h6=>?_,fun h6=>?_⟩
  ·have h12:(r.kind==1)=false:=by rw[beq_iff_eq.1 h6]; rfl
   have hB:=hc.b.dec (by omega) r.fr
   obtain⟨rs1,rs2⟩:=hp.rsp (beq_iff_eq.1 h6)
   conv=>whnf
   have hm:=Dy (n:=(aQ e.counts r.fr).length) (by omega)
   simp only[aQ] at hm
   rw[hm]
   conv=>whnf
   refine .mk (by simp only[List.length_set]; omega) ?_
   conv=>whnf
   refine aI.nZ 100 [2,4,6] (fun i:Nat=>[(8,.int i),(7,.own 75)]) (fun i=>[(0,.box 85 19 (.dat (.rule r))),(1,.box 54 3 (.dat (.elem e))),(2,.box 54 3 (.agg [.int 0,.row 0 true .nil])),(24,vZ (aQ e.counts r.fr)),(25,.box 54 3 (.agg [.int e.value,.own 24])),(75,vZ (oH r (aQ e.counts r.fr) i))]) (fun i=>i<=(aQ e.counts r.fr).length) (fun i=>(aQ e.counts r.fr).length-i) 0 [0,1,2,24,25,75] rfl (by decide) (fun _=>rfl) (Nat.zero_le _) ?_ ?_ ?_
   ·exact⟨⟨_,rfl,.eq rfl⟩,⟨_,rfl,.eq rfl⟩,trivial⟩
   ·exact⟨okF rfl nofun rfl rfl rfl ⟨rfl,rfl⟩ rfl,okF rfl nofun rfl rfl rfl ⟨rfl,rfl⟩ rfl,okF rfl nofun rfl rfl rfl ⟨rfl,rfl⟩ rfl,okF rfl nofun rfl rfl rfl ⟨rfl,rfl⟩ rfl,⟨rfl,nofun,rfl,rfl,_,rfl,rfl,rfl,dN.of_eq rfl⟩,okF rfl nofun rfl rfl rfl ⟨rfl,rfl⟩ rfl,trivial⟩
   conv=>whnf
   refine⟨⟨⟨_,rfl,.eq rfl⟩,⟨_,rfl,.eq rfl⟩,⟨_,rfl,.eq rfl⟩,trivial⟩,rfl,?_⟩
   rintro i hi
   have hn6:(i:Int)*1048577<=6*1048577:=Int.mul_le_mul_of_nonneg_right (by omega) (by omega)
   have hn0:0<=(i:Int)*1048577:=Int.mul_nonneg (by omega) (by omega)
   have hRB:=XP hB (by omega) (r:=r) i
   have hRl:(oH r (aQ e.counts r.fr) i).length=e.counts.length:=by rw[qH,hl1]
   conv=>whnf
   refine⟨fun g1=>?_,fun g1=>?_⟩
   ·have hi':i<(aQ e.counts r.fr).length:=by
     have:(i:Int)<((oH r (aQ e.counts r.fr) i).length:Int):=of_decide_eq_true g1
     omega
    have hir:i<r.response.length:=by omega
    obtain⟨q3,q4⟩:0<=r.response.getD i 0/\r.response.getD i 0<e.counts.length:=by
     rw[show r.response.getD i 0=r.response[i] by simp[hir]]; exact rs2 _ (List.getElem_mem hir)
    have hR1:=hRB.get hn0 (r.response.getD i 0).toNat
    have hR2:=hB.get (by omega) i
    conv=>whnf
    repeat(refine VC.mk (by first|(first|(simp only[Rw.rng,qH]; omega)|(simp only[okI,aQ,Int.toNat_natCast] at *; omega))|(simp only[Rw.rng] at *; first|omega|(simp_all; done)|(simp_all; omega))) ?_; conv=>whnf)
    refine⟨i+1,[0,1,2,24,25,75],by omega,by omega,⟨⟨_,rfl,.eq rfl⟩,⟨_,rfl,.eq rfl⟩,trivial⟩,⟨⟨_,rfl,.eq rfl⟩,⟨_,rfl,.eq rfl⟩,⟨_,rfl,.eq rfl⟩,trivial⟩,okF rfl nofun rfl rfl rfl ⟨rfl,rfl⟩ rfl,okF rfl nofun rfl rfl rfl ⟨rfl,rfl⟩ rfl,okF rfl nofun rfl rfl rfl ⟨rfl,rfl⟩ rfl,okF rfl nofun rfl rfl rfl ⟨rfl,rfl⟩ rfl,⟨rfl,nofun,rfl,rfl,_,rfl,rfl,rfl,dN.of_eq rfl⟩,okF rfl nofun rfl rfl rfl ?_ ?_,trivial⟩
    ·exact⟨rfl,rfl⟩
    ·rw[uH]; rfl
   have hi':i=(aQ e.counts r.fr).length:=by
    have: ¬ ((i:Int)<((oH r (aQ e.counts r.fr) i).length:Int)):=of_decide_eq_false g1
    omega
   subst hi'
   have hR1:=hRB.get hn0 r.to.toNat
   conv=>whnf
   repeat(refine VC.mk (by first|(simp only[Rw.rng,qH]; omega)|(simp only[okI,aQ,Int.toNat_natCast] at *; omega)) ?_; conv=>whnf)
   refine⟨fun h4=>?_,fun h4=>?_⟩
   ·replace h4:decide (r.write>=0)=true:=h4
    have hS:gV r e= .fP [.dat (.elem ⟨r.write,gU (oH r (aQ e.counts r.fr) (aQ e.counts r.fr).length) r.to 1⟩),.bool true]:=by rw[gV,gG,h1,h12,h5,h6,h4]; rfl
    conv=>whnf
    rw[hS]
    exact ak.wC rfl
   ·replace h4:decide (r.write>=0)=false:=h4
    have hS:gV r e= .fP [.dat (.elem ⟨e.value,gU (oH r (aQ e.counts r.fr) (aQ e.counts r.fr).length) r.to 1⟩),.bool true]:=by rw[gV,gG,h1,h12,h5,h6,h4]; rfl
    conv=>whnf
    rw[hS]
    exact ak.wC rfl
  ·replace h6:(r.kind==3)=false:=h6
   have hB:=hc.b.dec (by omega) r.fr
   have hB1:=hB.get (by omega) r.to.toNat
   have hgen:gG r e=some ⟨bif decide (r.write>=0) then r.write else e.value,gU (aQ e.counts r.fr) r.to 1⟩:=by
    rw[gG,h1,h5,h6]
    cases h12:(r.kind==1) with
    |false=>rfl
    |true=>rw[h12,Bool.true_and] at h2; rw[h2]; rfl
   conv=>whnf
   repeat(refine VC.mk (by first|(simp only[Rw.rng,List.length_set]; omega)|(simp only[okI,aQ,gU] at *; omega)) ?_; conv=>whnf)
   refine⟨fun h4=>?_,fun h4=>?_⟩
   ·replace h4:decide (r.write>=0)=true:=h4
    have hS:gV r e= .fP [.dat (.elem ⟨r.write,gU (aQ e.counts r.fr) r.to 1⟩),.bool true]:=by rw[gV,hgen,h4]; rfl
    conv=>whnf
    rw[hS]
    exact ak.wC rfl
   ·replace h4:decide (r.write>=0)=false:=h4
    have hS:gV r e= .fP [.dat (.elem ⟨e.value,gU (aQ e.counts r.fr) r.to 1⟩),.bool true]:=by rw[gV,hgen,h4]; rfl
    conv=>whnf
    rw[hS]
    exact ak.wC rfl
theorem bz{c:Bool}{a b:Int}(ha:c=true->a≠0)(h:(bif c then a else b)=0):c=false/\b=0:=by
 cases c with
 |true=>exact absurd h (ha rfl)
 |false=>exact⟨rfl,h⟩
theorem nz{a:Int}(h:(a !=0)=true):a≠0:=by simpa using h
theorem lN: ∀ {l:List Int},bJ l=0-> ∀ x∈l,x=0:=by
 intro l
 induction l with
 |nil=>intro _ x h; cases h
 |cons a r ih =>
  intro h x hx
  simp only[bJ] at h
  split at h
  ·rename_i h0
   rcases List.mem_cons.1 hx with rfl|hx
   ·exact h0
   ·exact ih h x hx
  ·rename_i h0; exact absurd h h0
structure MO(p:aO):Prop where
 pos:0<p.states.length
 states:p.states.length<=6
 values:p.values.length<=3
 adu:p.rules.length<=8
 init:jw p.initial p.states.length=0
 start:p.initial≠[]
 rule: ∀ i,i<p.rules.length->ig p i=0
theorem rE{p:aO}(h:dH p=0):MO p:=by
 unfold dH at h
 obtain⟨_,h⟩:=bz (fun _=>by decide) h
 obtain⟨_,h⟩:=bz (fun _=>by decide) h
 obtain⟨h0,h⟩:=bz (fun _=>by decide) h
 obtain⟨h1,h⟩:=bz (fun _=>by decide) h
 obtain⟨_,h⟩:=bz nz h
 obtain⟨_,h⟩:=bz (fun _=>by decide) h
 obtain⟨_,h⟩:=bz (fun _=>by decide) h
 obtain⟨h2,h⟩:=bz nz h
 obtain⟨h3,h⟩:=bz nz h
 have h2':xM p=0:=by simpa using h2
 have h3':CO p=0:=by simpa using h3
 have g:=lN h2'
 simp only[vC,Bool.or_eq_false_iff,decide_eq_false_iff_not] at h1
 refine⟨?_,by omega,by omega,by omega,g _ (by simp),?_,fun i hi=>?_⟩
 ·have:(p.states.length:Int)≠0:=by simpa using h0
  omega
 ·intro e
  have:=g (fE ((p.initial.length:Int)==0) 1) (by simp)
  rw[e] at this; exact absurd this (by decide)
 ·exact lN h3' _ (List.mem_map.2 ⟨i,by simpa using hi,rfl⟩)
theorem uo{x:Int}{n:Nat}(h:oM x n=false):0<=x/\x<n:=by
 simp only[oM,Bool.or_eq_false_iff,decide_eq_false_iff_not] at h; omega
theorem CP{x:Int}{n:Nat}(h:dG x n=0):0<=x/\x<n:=by
 refine uo ?_
 unfold dG fE at h
 cases hb:oM x n with
 |false=>rfl
 |true=>rw[hb] at h; exact absurd h (by decide)
theorem Fe{l:List Int}{n:Nat}(h:jw l n=0):qG n l:=by
 unfold jw at h
 obtain⟨h,_⟩:=bz (fun _=>by decide) h
 rw[List.any_eq_false] at h
 exact fun q hq=>uo (by simpa using h q hq)
theorem PO{n:Nat}: ∀ {l:List Int},pI l n=0->qG n l:=by
 intro l
 induction l with
 |nil=>intro _ q h; cases h
 |cons x r ih =>
  intro h q hq
  simp only[pI] at h
  split at h
  ·rename_i h0
   rcases List.mem_cons.1 hq with rfl|hq
   ·exact CP h0
   ·exact ih h q hq
  ·rename_i h0; exact absurd h h0
theorem KG{k:Int}(h:sQ k 1=true):k=1\/k=2\/k=3:=by
 unfold sQ at h
 cases h1:(k==1) with
 |true=>exact .inl (beq_iff_eq.1 h1)
 |false =>
  cases h2:(k==2) with
  |true=>exact .inr (.inl (beq_iff_eq.1 h2))
  |false =>
   cases h3:(k==3) with
   |true=>exact .inr (.inr (beq_iff_eq.1 h3))
   |false=>rw[h1,h2,h3] at h; cases hb:(k==4||k==5)<;>rw[hb] at h<;>cases h
structure ae7(n:Nat)(p:aO)(r:Rule):Prop where
 place:zK n r
 kind:r.kind=1\/r.kind=2\/r.kind=3
 ahb:qG n r.all
 ex1:r.kind≠1->r.ex=[]/\r.all=[]
 rd:oM r.read p.values.length=false\/r.read= -1
 wr:oM r.write p.values.length=false\/r.write= -1
theorem rV{p:aO}{v:Int}(h:jQ p v=0):oM v p.values.length=false\/v= -1:=by
 unfold jQ fE at h
 have h': ¬ (v< -1\/v>=(p.values.length:Int)):=by
  intro q
  have:(decide (v< -1)||decide (v>=(p.values.length:Int)))=true:=by simpa using q
  rw[this] at h; exact absurd h (by decide)
 by_cases e:v= -1
 ·exact .inr e
 ·left
  simp only[oM,Bool.or_eq_false_iff,decide_eq_false_iff_not]; omega
theorem acQ{p:aO}{i:Nat}(hv:MO p)(ht:p.topology=1)(hi:i<p.rules.length):ae7 p.states.length p (p.rules.getD i default):=by
 have h:=hv.rule i hi
 have hpos:=hv.pos
 simp only[ig,oQ] at h
 generalize (p.rules.getD i default)=r at h ⊢
 obtain⟨_,h⟩:=bz (fun _=>by decide) h
 obtain⟨hb,h⟩:=bz (fun _=>by decide) h
 obtain⟨he,h⟩:=bz nz h
 rw[G6,Bool.or_eq_false_iff] at he
 rw[ht,Bool.or_eq_false_iff] at hb
 have hk:=KG (show sQ r.kind 1=true by simpa using hb.1)
 have hu:kE r 1=false:=by rw[uV (by omega)]; exact hb.2
 have hun:=Lh hu
 have hpf:r.kind≠2->r.kind≠5->r.gB=0/\r.AB=0:=by
  intro k1 k2
  simp only[kE,MP,Bool.or_eq_false_iff] at hu
  have h3:=hu.2.2.1
  simp only[beq_eq_false_iff_ne.2 k1,beq_eq_false_iff_ne.2 k2,Bool.not_false,Bool.true_and,Bool.or_eq_false_iff] at h3
  exact⟨RS h3.1,RS h3.2⟩
 have h00:(0:Int)<=0/\(0:Int)<p.states.length:=⟨by omega,by omega⟩
 have pn:qG p.states.length []:=fun q hq=>by cases hq
 rcases hk with e|e|e
 ·rw[e] at h
  have g:=lN h
  have⟨a,b⟩:=hpf (by omega) (by omega)
  exact⟨⟨uo he.1,uo he.2,by rw[a]; exact h00,by rw[b]; exact h00,fun q=>by omega,Fe (g (jw r.ex p.states.length) (by simp))⟩,.inl e,Fe (g (jw r.all p.states.length) (by simp)),fun q=>absurd e q,rV (g (jQ p r.read) (by simp)),rV (g (jQ p r.write) (by simp))⟩
 ·rw[e] at h
  have g:=lN h
  obtain⟨_,u1,u2,_⟩:=hun.1 (by omega)
  exact⟨⟨uo he.1,uo he.2,CP (g (dG r.gB p.states.length) (by simp)),CP (g (dG r.AB p.states.length) (by simp)),fun q=>by omega,by rw[u1]; exact pn⟩,.inr (.inl e),by rw[u2]; exact pn,fun _=>⟨u1,u2⟩,rV (g (jQ p r.read) (by simp)),rV (g (jQ p r.write) (by simp))⟩
 ·rw[e] at h
  have g:=lN h
  have⟨a,b⟩:=hpf (by omega) (by omega)
  obtain⟨_,u1,u2,_⟩:=hun.1 (by omega)
  have hr:=g (D5 r.response p.states.length) (by simp)
  unfold D5 at hr
  obtain⟨r1,r2⟩:=bz (fun _=>by decide) hr
  exact⟨⟨uo he.1,uo he.2,by rw[a]; exact h00,by rw[b]; exact h00,fun _=>⟨by have q9:(r.response.length:Int)=p.states.length:=(by simpa using r1); omega,PO r2⟩,by rw[u1]; exact pn⟩,.inr (.inr e),by rw[u2]; exact pn,fun _=>⟨u1,u2⟩,rV (g (jQ p r.read) (by simp)),rV (g (jQ p r.write) (by simp))⟩
theorem KH{p:aO}(h:rW p=true):p.topology=1:=by
 simp only[rW,Bool.and_eq_true,beq_iff_eq] at h; exact h.1.1.1
structure ahc(p:aO)(e:Elem):Prop where
 valid:MO p
 plain:rW p=true
 len:e.counts.length=p.states.length
 nums:F7 e.counts
 val:0<=e.value/\e.value<max 1 (p.values.length:Int)
theorem mJ{p:aO}(h:aaO p=0):dH p=0/\rW p=true:=by
 unfold aaO at h
 obtain⟨h1,h⟩:=bz nz h
 obtain⟨h2,_⟩:=bz (fun _=>by decide) h
 refine⟨by simpa using h1,?_⟩
 simp only[qF] at h2
 cases hp:rW p with
 |true=>rfl
 |false=>rw[hp] at h2; simp at h2
theorem VW{b:Bool}{n:Int}(h:fE b n=0)(hn:n≠0):b=false:=by
 cases b with
 |false=>rfl
 |true=>exact absurd h hn
theorem aa0{x:Int}:Ic x=true↔0<=x/\x<=1048576:=by simp[Ic]
theorem iQ{α:Type}{c:Bool}{a b:Option α}{x:α}(h:(bif c then a else b)=some x):a=some x\/b=some x:=by
 cases c with
 |true=>exact .inl h
 |false=>exact .inr h
theorem EY{c:List Int}{i d:Int}:(gU c i d).length=c.length:=by simp[gU]
theorem nS{c:List Int}{i:Int}:(aQ c i).length=c.length:=by simp[aQ]
theorem xG{r:Rule}{e x:Elem}(h:gG r e=some x):x.counts.length=e.counts.length:=by
 simp only[gG] at h
 have out: ∀ {c:List Int} {v:Int},c.length=e.counts.length->some (⟨v,gU c r.to 1⟩:Elem)=some x->x.counts.length=e.counts.length:=by
  intro c v hc h; cases h; rw[EY,hc]
 rcases iQ h with h|h
 ·cases h
 rcases iQ h with h|h
 ·rcases iQ h with h|h
  ·cases h
  ·exact out nS h
 rcases iQ h with h|h
 ·rcases iQ h with h|h
  ·cases h
  ·exact out (by rw[EY,nS,nS]) h
 rcases iQ h with h|h
 ·exact out (by rw[qH,nS]) h
 ·exact out nS h
end Go.Proofs.YtajmbgljnaljiaaGreatDoor
namespace Go.Proofs.YtajmbgljnaljiaaGreatDoor
open Go.Ab Go.Proofs
set_option maxRecDepth 100000
theorem ah.insert{h:Hz}{i n:Nat}{l:List Elem}{e:Elem}{K:V->Hz->Prop}{KW:Nat->V->Hz->Prop}(hi:h.get i=some (eF l))(hn:h.get n=none)(hl:l.length<2^30)(hs:gq l)(he:e.counts.length<2^30)
  (h1:rP l e=true->K (.own i) ((i,some (eF l))::h)) (h2:rP l e=false->K (.own n) ((n,some (eF (nC l e)))::(i,none)::h)):ah Tryz.prog false none 53 [.own i,.dat (.elem e)] h n K KW:=by
 refine ah.XU (ts:=[.own 0,.dat (.elem e)]) (S.pJ l e 1 (by decide) hl hs he) ?_ rfl rfl rfl hi hn ?_
 ·show [T.own i,T.ren _ (eG e)]=[T.own i,eG e]
  rfl
 ·rintro t hp (⟨a,rfl,rfl⟩|⟨a,rfl,rfl⟩)
  ·exact .inl ⟨.own i,eF l,rfl,rfl,rfl,h1 a⟩
  ·exact .inr ⟨.own n,eF (nC l e),rfl,rfl,rfl,h2 a⟩
structure iW(q:Prop'):Prop where
 start:q.start.length<2^30
 bad:q.bad.length<2^30
 adjacent:q.adjacent.length<2^30
 goal:q.goal.length<2^30
 cnt: ∀ i,(q.bad.getD i default).states.length<2^30
def oL(c:Cnt):Bool:=((c.states.length:Int)==0||decide (c.least<1))||decide (c.least>3)
def J4(n:Int)(c:Cnt):Int:=bJ [jw c.states n,fE (oL c) 1]
def uq(l:List Cnt)(n:Int):Int:=bJ (l.map (J4 n))
def GR(p:aO)(l:List Int):Int:=bif (l.length:Int)==0 then 0 else bif p.topology==1 then 6 else bif (l.length:Int) !=2 then 1 else bJ [dG (l.getD 0 0) p.states.length,dG (l.getD 1 0) p.states.length]
def uw(q:Prop'):Bool:=((q.kind==1)&&decide ((q.goal.length:Int)>0))||(!(q.kind==1)&&(decide ((q.bad.length:Int)>0)||decide ((q.adjacent.length:Int)>0)))
def jf(p:aO)(q:Prop'):Int :=
 let n:Int:=p.states.length
 bif dH p !=0 then dH p else bif !(validName q.name) then 2 else bif !(q.kind==1)&&q.kind !=2 then 1 else bif uw q then 1 else
 bif jw q.start n !=0 then jw q.start n else bif q.start.any (fun x=> !(yL p.initial x)) then 5 else
 bif !(q.kind==1) then bJ [jw q.goal n,fE ((q.goal.length:Int)==0) 1] else
 bJ [fE (((q.bad.length:Int)==0)&&((q.adjacent.length:Int)==0)) 1,fE (decide ((q.bad.length:Int)>3)) 4,uq q.bad n,GR p q.adjacent]
theorem S.jy(l:List Cnt)(n:Int)(f:Bool)(hl:l.length<2^30)(hs: ∀ i,(l.getD i default).states.length<2^30):aj Tryz.prog 104 [.row 3 f (.cnts l),.int n] (.int (uq l n)):=by
 refine aj.of Bd.jy (by simp) rfl rfl ?_
 conv=>whnf
 refine aI.same [1,8,9] (fun i:Nat=>[(10,.int i)]) (fun i=>i<=l.length/\uq l n=bJ ((l.drop i).map (J4 n))) (fun i=>l.length-i) 0 rfl (by decide) rfl (fun _=>rfl) ⟨by omega,by simp[uq]⟩ ⟨⟨_,rfl,rfl⟩,trivial⟩ ?_
 conv=>whnf
 refine⟨rfl,?_⟩
 rintro i ⟨hi,hall⟩
 conv=>whnf
 refine⟨fun h3=>?_,fun h3=>?_⟩
 ·have hi':i<l.length:=by simpa using h3
  rw[dO default hi',List.map_cons] at hall
  simp only[bJ] at hall
  have hc:=hs i
  conv=>whnf
  refine .mk (by simp only[Rw.rng] at *; omega) ?_
  conv=>whnf
  refine ah.pure (S.dJ (l.getD i default).states n false (by omega)) rfl ?_
  conv=>whnf
  repeat(refine VC.mk (by first|exact id|(intro h; rw[h]; rfl)) ?_; conv=>whnf)
  refine ah.pure (S.bU (oL (l.getD i default)) 1) rfl ?_
  conv=>whnf
  refine ah.pure (S.bM [jw (l.getD i default).states n,fE (oL (l.getD i default)) 1] true (show 2<2^40 by decide)) rfl ?_
  conv=>whnf
  refine⟨fun h4=>?_,fun h4=>?_⟩
  ·conv=>whnf
   refine ak.int ?_
   have h4':J4 n (l.getD i default)≠0:=nz h4
   rw[hall,if_neg h4']; rfl
  ·conv=>whnf
   refine .mk (by simp only[okI] at *; omega) ?_
   conv=>whnf
   have h4':J4 n (l.getD i default)=0:=IL h4
   rw[if_pos h4'] at hall
   refine⟨i+1,⟨by omega,hall⟩,by omega,⟨⟨_,rfl,rfl⟩,trivial⟩,?_,rfl⟩
   repeat' (first|exact trivial|exact⟨_,rfl,rfl⟩|constructor)
 ·have hi':l.length<=i:=by simpa using h3
  rw[List.drop_eq_nil_of_le hi'] at hall
  conv=>whnf
  exact ak.int (by rw[hall]; rfl)
theorem S.iE(p:aO)(l:List Int)(f:Bool)(_hl:l.length<2^30):aj Tryz.prog 105 [.dat (.kS p),.row 0 f (.ints l)] (.int (GR p l)):=by
 refine aj.of Bd.iE (by simp) rfl rfl ?_
 conv=>whnf
 refine⟨fun h1=>?_,fun h1=>?_⟩
 ·conv=>whnf
  exact ak.int (by rw[GR,h1]; rfl)
 conv=>whnf
 refine⟨fun h2=>?_,fun h2=>?_⟩
 ·conv=>whnf
  exact ak.int (by rw[GR,h1,h2]; rfl)
 conv=>whnf
 refine⟨fun h3=>?_,fun h3=>?_⟩
 ·conv=>whnf
  exact ak.int (by rw[GR,h1,h2,h3]; rfl)
 have h4:l.length=2:=by
  have:(l.length:Int)=2:=by simpa using h3
  omega
 conv=>whnf
 repeat(refine VC.mk (by simp only[Rw.rng] at *; omega) ?_; conv=>whnf)
 refine ah.pure (S.bV (l.getD 0 0) p.states.length) rfl ?_
 conv=>whnf
 refine ah.pure (S.bV (l.getD 1 0) p.states.length) rfl ?_
 conv=>whnf
 refine ah.pure (S.bM [dG (l.getD 0 0) p.states.length,dG (l.getD 1 0) p.states.length] true (show 2<2^40 by decide)) rfl ?_
 conv=>whnf
 exact ak.int (by rw[GR,h1,h2,h3]; rfl)
theorem S.dw(p:aO)(q:Prop')(hp:fG p)(hq:iW q):aj Tryz.prog 68 [.dat (.kS p),.dat (.prop q)] (.int (jf p q)):=by
 have g1:=hp.states; have g5:=hp.initial
 have q1:=hq.start; have q2:=hq.bad; have q3:=hq.adjacent; have q4:=hq.goal
 refine aj.of Bd.dw (by simp) rfl rfl ?_
 conv=>whnf
 refine ah.pure (S.fM p hp) rfl ?_
 conv=>whnf
 refine⟨fun h1=>?_,fun h1=>?_⟩
 ·conv=>whnf
  exact ak.int (by rw[jf,h1]; rfl)
 conv=>whnf
 refine ah.pure (S.dY q.name) rfl ?_
 conv=>whnf
 refine⟨fun h2=>?_,fun h2=>?_⟩
 ·conv=>whnf
  exact ak.int (by rw[jf,h1,h2]; rfl)
 conv=>whnf
 repeat(refine VC.mk id ?_; conv=>whnf)
 refine⟨fun h3=>?_,fun h3=>?_⟩
 ·conv=>whnf
  exact ak.int (by rw[jf,h1,h2,h3]; rfl)
 conv=>whnf
 repeat(refine VC.mk id ?_; conv=>whnf)
 refine⟨fun h4=>?_,fun h4=>?_⟩
 ·conv=>whnf
  refine Fork.mk (fun _=>?_) (fun q=>absurd (q.symm.trans (h4)) Bool.false_ne_true)
  conv=>whnf
  exact ak.int (by rw[jf,h1,h2,h3,show uw q=true by rw[uw]; erw [h4]; rfl]; rfl)
 conv=>whnf
 repeat(refine VC.mk (by first|exact id|(intro h; simp_all; done)) ?_; conv=>whnf)
 refine⟨fun h5=>?_,fun h5=>?_⟩
 ·conv=>whnf
  exact ak.int (by rw[jf,h1,h2,h3,show uw q=true by rw[uw]; erw [h5]; simp]; rfl)
 have h45:uw q=false:=by rw[uw]; erw [h4,h5]; rfl
 conv=>whnf
 refine ah.pure (S.dJ q.start p.states.length false (by omega)) rfl ?_
 conv=>whnf
 refine⟨fun h6=>?_,fun h6=>?_⟩
 ·conv=>whnf
  exact ak.int (by rw[jf,h1,h2,h3,h45,h6]; rfl)
 conv=>whnf
 refine aI.same [2,3,6,7,65,66] (fun i:Nat=>[(67,.int i)]) (fun i=>i<=q.start.length/\(q.start.take i).any (fun x=> !(yL p.initial x))=false) (fun i=>q.start.length-i) 0 rfl (by decide) rfl (fun _=>rfl) ⟨by omega,by simp⟩ ⟨⟨_,rfl,rfl⟩,trivial⟩ ?_
 conv=>whnf
 refine⟨rfl,?_⟩
 rintro i ⟨hi,hall⟩
 conv=>whnf
 refine⟨fun h7=>?_,fun h7=>?_⟩
 ·have hi':i<q.start.length:=by simpa using h7
  conv=>whnf
  refine .mk (by simp only[Rw.rng] at *; omega) ?_
  conv=>whnf
  refine ah.pure (S.slices_Contains_int p.initial (q.start.getD i 0) false (by omega)) rfl ?_
  conv=>whnf
  refine⟨fun h8=>?_,fun h8=>?_⟩
  ·conv=>whnf
   exact ak.int (by rw[jf,h1,h2,h3,h45,h6,gI (d:=0) hi' h8]; rfl)
  ·conv=>whnf
   refine .mk (by simp only[okI] at *; omega) ?_
   conv=>whnf
   refine⟨i+1,⟨by omega,?_⟩,by omega,⟨⟨_,rfl,rfl⟩,trivial⟩,?_,rfl⟩
   ·rw[jE (d:=0) hi' hall]; exact h8
   ·repeat' (first|exact trivial|exact⟨_,rfl,rfl⟩|constructor)
 have hi':q.start.length<=i:=by simpa using h7
 rw[List.take_of_length_le hi'] at hall
 conv=>whnf
 refine⟨fun h8=>?_,fun h8=>?_⟩
 ·conv=>whnf
  refine ah.pure (S.dJ q.goal p.states.length false (by omega)) rfl ?_
  conv=>whnf
  refine ah.pure (S.bU ((q.goal.length:Int)==0) 1) rfl ?_
  conv=>whnf
  refine ah.pure (S.bM [jw q.goal p.states.length,fE ((q.goal.length:Int)==0) 1] true (show 2<2^40 by decide)) rfl ?_
  conv=>whnf
  exact ak.int (by rw[jf,h1,h2,h3,h45,h6,hall,h8]; rfl)
 conv=>whnf
 repeat(refine VC.mk id ?_; conv=>whnf)
 refine ah.pure (S.bU (((q.bad.length:Int)==0)&&((q.adjacent.length:Int)==0)) 1) rfl ?_
 conv=>whnf
 refine ah.pure (S.bU (decide ((q.bad.length:Int)>3)) 4) rfl ?_
 conv=>whnf
 refine ah.pure (S.jy q.bad p.states.length false q2 hq.cnt) rfl ?_
 conv=>whnf
 refine ah.pure (S.iE p q.adjacent false q3) rfl ?_
 conv=>whnf
 refine ah.pure (S.bM [fE (((q.bad.length:Int)==0)&&((q.adjacent.length:Int)==0)) 1,fE (decide ((q.bad.length:Int)>3)) 4,uq q.bad p.states.length,GR p q.adjacent] true (show 4<2^40 by decide)) rfl ?_
 conv=>whnf
 exact ak.int (by rw[jf,h1,h2,h3,h45,h6,hall,h8]; rfl)
theorem S.yQ(l:List Int)(s:Int)(f:Bool)(hl:l.length<2^40):aj Tryz.prog 114 [.row 0 f (.ints l),.int s] (.bool (yL l s)):=by
 refine aj.of Bd.yQ (by simp) rfl rfl ?_
 conv=>whnf
 refine aI.same [0,1] (fun i:Nat=>[(5,.int i)]) (fun i=>i<=l.length/\(l.take i).any (fun x=>s==x)=false) (fun i=>l.length-i) 0 rfl (by decide) rfl (fun _=>rfl) ⟨by omega,by simp⟩ ⟨⟨_,rfl,rfl⟩,trivial⟩ ?_
 conv=>whnf
 refine⟨rfl,?_⟩
 rintro i ⟨hi,hall⟩
 conv=>whnf
 refine⟨fun h3=>?_,fun h3=>?_⟩
 ·have hi':i<l.length:=by simpa using h3
  conv=>whnf
  refine .mk (by simp only[Rw.rng] at *; omega) ?_
  conv=>whnf
  refine⟨fun h4=>?_,fun h4=>?_⟩
  ·have h4':(s==l.getD i 0)=true:=by rw[show(s==l.getD i 0)=(l.getD i 0==s) from Bool.beq_comm]; exact h4
   conv=>whnf
   exact ak.bool (gI (d:=0) hi' h4')
  ·have h4':(s==l.getD i 0)=false:=by rw[show(s==l.getD i 0)=(l.getD i 0==s) from Bool.beq_comm]; exact h4
   conv=>whnf
   refine .mk (by simp only[okI] at *; omega) ?_
   conv=>whnf
   refine⟨i+1,⟨by omega,?_⟩,by omega,⟨⟨_,rfl,rfl⟩,trivial⟩,?_,rfl⟩
   ·rw[jE (d:=0) hi' hall]; exact h4'
   ·repeat' (first|exact trivial|exact⟨_,rfl,rfl⟩|constructor)
 ·have hi':l.length<=i:=by simpa using h3
  rw[List.take_of_length_le hi'] at hall
  conv=>whnf
  exact ak.bool hall
theorem abf{p:aO}{l:List Int}(h1:(decide ((l.length:Int)>0)&&(p.topology==1))=false)(h2:((l.length:Int) !=0&&(l.length:Int) !=2)=false):GR p l=bif l.any (fun x=>oM x p.states.length) then 5 else 0:=by
 unfold GR
 rcases l with _|⟨a,_|⟨b,_|⟨c,r⟩⟩⟩
 ·rfl
 ·simp at h2
 ·have ht:(p.topology==1)=false:=by simpa using h1
  rw[ht]
  simp only[List.length_cons,List.length_nil,List.getD_cons_zero,List.getD_cons_succ,List.any_cons,List.any_nil,Bool.or_false,dG]
  cases oM a p.states.length<;>cases oM b p.states.length<;>rfl
 ·simp at h2; omega
theorem RU{c:Cnt}:oL c=((c.states.length:Int)==0|| !(iF c.least 1 3)):=by
 rw[oL,nU,Bool.or_assoc]
theorem S.dX(p:aO)(q:Prop')(hp:fG p)(hq:iW q):aj Tryz.prog 81 [.dat (.kS p),.dat (.prop q)] (.int (jf p q)):=by
 have g1:=hp.states; have g5:=hp.initial
 have q1:=hq.start; have q2:=hq.bad; have q3:=hq.adjacent; have q4:=hq.goal
 refine aj.of Bd.dX (by simp) rfl rfl ?_
 conv=>whnf
 refine ah.pure (S.kJ p hp) rfl ?_
 conv=>whnf
 refine⟨fun h1=>?_,fun h1=>?_⟩
 ·conv=>whnf
  exact ak.int (by rw[jf,h1]; rfl)
 conv=>whnf
 refine ah.pure (S.iw q.name) rfl ?_
 conv=>whnf
 refine⟨fun h2=>?_,fun h2=>?_⟩
 ·conv=>whnf
  exact ak.int (by rw[jf,h1,h2]; rfl)
 conv=>whnf
 repeat(refine VC.mk id ?_; conv=>whnf)
 refine⟨fun h3=>?_,fun h3=>?_⟩
 ·replace h3:(!(q.kind==1)&&q.kind !=2)=true:=h3
  conv=>whnf
  exact ak.int (by rw[jf,h1,h2,h3]; rfl)
 replace h3:(!(q.kind==1)&&q.kind !=2)=false:=h3
 have k2:(q.kind==2)= !(q.kind==1):=by
  cases e:(q.kind==1) with
  |true=>rw[beq_iff_eq.1 e]; rfl
  |false=>rw[e] at h3; simpa using h3
 conv=>whnf
 repeat(refine VC.mk (by first|exact id|(intro h; rw[h]; rfl)|(intro h; simp_all; done)) ?_; conv=>whnf)
 refine⟨fun h4=>?_,fun h4=>?_⟩
 ·rw[k2] at h4
  conv=>whnf
  exact ak.int (by rw[jf,h1,h2,h3,show uw q=true from h4]; rfl)
 rw[k2] at h4
 replace h4:uw q=false:=h4
 conv=>whnf
 refine ah.pure (S.iG q.start p.states.length false (by omega) (by omega)) rfl ?_
 conv=>whnf
 refine⟨fun h6=>?_,fun h6=>?_⟩
 ·conv=>whnf
  exact ak.int (by rw[jf,h1,h2,h3,h4,h6]; rfl)
 conv=>whnf
 refine aI.same [2,3,6] (fun i:Nat=>[(8,.int i)]) (fun i=>i<=q.start.length/\(q.start.take i).any (fun x=> !(yL p.initial x))=false) (fun i=>q.start.length-i) 0 rfl (by decide) rfl (fun _=>rfl) ⟨by omega,by simp⟩ ⟨⟨_,rfl,rfl⟩,trivial⟩ ?_
 conv=>whnf
 refine⟨rfl,?_⟩
 rintro i ⟨hi,hall⟩
 conv=>whnf
 refine⟨fun h7=>?_,fun h7=>?_⟩
 ·have hi':i<q.start.length:=by simpa using h7
  conv=>whnf
  refine .mk (by simp only[Rw.rng] at *; omega) ?_
  conv=>whnf
  refine ah.pure (S.yQ p.initial (q.start.getD i 0) false (by omega)) rfl ?_
  conv=>whnf
  refine⟨fun h8=>?_,fun h8=>?_⟩
  ·conv=>whnf
   exact ak.int (by rw[jf,h1,h2,h3,h4,h6,gI (d:=0) hi' h8]; rfl)
  ·conv=>whnf
   refine .mk (by simp only[okI] at *; omega) ?_
   conv=>whnf
   refine⟨i+1,⟨by omega,?_⟩,by omega,⟨⟨_,rfl,rfl⟩,trivial⟩,?_,rfl⟩
   ·rw[jE (d:=0) hi' hall]; exact h8
   ·repeat' (first|exact trivial|exact⟨_,rfl,rfl⟩|constructor)
 have hi':q.start.length<=i:=by simpa using h7
 rw[List.take_of_length_le hi'] at hall
 clear h7 hi'
 conv=>whnf
 refine⟨fun h8=>?_,fun h8=>?_⟩
 ·have h8':(!(q.kind==1))=true:=by rw[<- k2]; exact h8
  have hS:jf p q=bJ [jw q.goal p.states.length,fE ((q.goal.length:Int)==0) 1]:=by rw[jf,h1,h2,h3,h4,h6,hall,h8']; rfl
  rw[hS]
  conv=>whnf
  refine ah.pure (S.iG q.goal p.states.length false (by omega) (by omega)) rfl ?_
  conv=>whnf
  refine⟨fun h9=>?_,fun h9=>?_⟩
  ·conv=>whnf
   exact ak.int (fN (nz h9))
  rw[show jw q.goal p.states.length=0 from IL h9,f0]
  conv=>whnf
  refine⟨fun h10=>?_,fun h10=>?_⟩
  ·conv=>whnf
   exact ak.int (by rw[h10]; rfl)
  ·conv=>whnf
   exact ak.int (by rw[h10]; rfl)
 have h8':(!(q.kind==1))=false:=by rw[<- k2]; exact h8
 have hS:jf p q=bJ [fE (((q.bad.length:Int)==0)&&((q.adjacent.length:Int)==0)) 1,fE (decide ((q.bad.length:Int)>3)) 4,uq q.bad p.states.length,GR p q.adjacent]:=by rw[jf,h1,h2,h3,h4,h6,hall,h8']; rfl
 rw[hS]
 conv=>whnf
 repeat(refine VC.mk id ?_; conv=>whnf)
 refine⟨fun h9=>?_,fun h9=>?_⟩
 ·conv=>whnf
  exact ak.int (by rw[h9]; rfl)
 rw[h9,Us]
 conv=>whnf
 refine⟨fun h10=>?_,fun h10=>?_⟩
 ·conv=>whnf
  exact ak.int (by rw[show decide ((q.bad.length:Int)>3)=true from h10]; rfl)
 rw[show decide ((q.bad.length:Int)>3)=false from h10,Us]
 conv=>whnf
 refine aI.same [2,3,6] (fun i:Nat=>[(10,.int i)]) (fun i=>i<=q.bad.length/\uq q.bad p.states.length=bJ ((q.bad.drop i).map (J4 p.states.length))) (fun i=>q.bad.length-i) 0 rfl (by decide) rfl (fun _=>rfl) ⟨by omega,by simp[uq]⟩ ⟨⟨_,rfl,rfl⟩,trivial⟩ ?_
 conv=>whnf
 refine⟨rfl,?_⟩
 rintro j ⟨hj,hcnt⟩
 conv=>whnf
 refine⟨fun h11=>?_,fun h11=>?_⟩
 ·have hj':j<q.bad.length:=by simpa using h11
  rw[dO default hj',List.map_cons] at hcnt
  simp only[bJ] at hcnt
  have hc:=hq.cnt j
  conv=>whnf
  refine .mk (by simp only[Rw.rng] at *; omega) ?_
  conv=>whnf
  refine ah.pure (S.iG (q.bad.getD j default).states p.states.length false (by omega) (by omega)) rfl ?_
  conv=>whnf
  refine⟨fun h12=>?_,fun h12=>?_⟩
  ·conv=>whnf
   have e1:J4 p.states.length (q.bad.getD j default)=jw (q.bad.getD j default).states p.states.length:=fN (nz h12)
   rw[e1,if_neg (nz h12)] at hcnt
   exact ak.int (by rw[hcnt,fN (nz h12)])
  have Yu:jw (q.bad.getD j default).states p.states.length=0:=IL h12
  have e1:J4 p.states.length (q.bad.getD j default)=bJ [fE (oL (q.bad.getD j default)) 1]:=by rw[J4,Yu,f0]
  rw[e1,RU] at hcnt
  conv=>whnf
  repeat(refine VC.mk (by first|exact id|(intro h; (repeat' apply And.intro)<;>first|exact h|omega|(simp only[Rw.qp]; omega)|(simp only[Rw.rng]; omega))|(simp only[Rw.rng] at *; omega)) ?_; conv=>whnf)
  refine ah.iD (fun _=>S.aU (q.bad.getD j default).least 1 3) rfl ?_
  conv=>whnf
  repeat(refine VC.mk (by first|exact id|(intro h; rw[h]; rfl)) ?_; conv=>whnf)
  refine⟨fun h13=>?_,fun h13=>?_⟩
  ·replace h13:(((q.bad.getD j default).states.length:Int)==0|| !(iF (q.bad.getD j default).least 1 3))=true:=h13
   rw[h13] at hcnt
   conv=>whnf
   exact ak.int (by rw[hcnt]; rfl)
  ·replace h13:(((q.bad.getD j default).states.length:Int)==0|| !(iF (q.bad.getD j default).least 1 3))=false:=h13
   rw[h13] at hcnt
   conv=>whnf
   refine .mk (by simp only[okI] at *; omega) ?_
   conv=>whnf
   refine⟨j+1,⟨by omega,hcnt⟩,by omega,⟨⟨_,rfl,rfl⟩,trivial⟩,?_,rfl⟩
   repeat' (first|exact trivial|exact⟨_,rfl,rfl⟩|constructor)
 have hj':q.bad.length<=j:=by simpa using h11
 rw[List.drop_eq_nil_of_le hj'] at hcnt
 rw[hcnt,show bJ (List.map (J4 p.states.length) [])=0 from rfl,f0]
 conv=>whnf
 repeat(refine VC.mk id ?_; conv=>whnf)
 refine⟨fun h12=>?_,fun h12=>?_⟩
 ·replace h12:(decide ((q.adjacent.length:Int)>0)&&(p.topology==1))=true:=h12
  conv=>whnf
  rw[Bool.and_eq_true] at h12
  have:((q.adjacent.length:Int)==0)=false:=beq_eq_false_iff_ne.2 (by have:=of_decide_eq_true h12.1; omega)
  exact ak.int (by rw[GR,this,h12.2]; rfl)
 replace h12:(decide ((q.adjacent.length:Int)>0)&&(p.topology==1))=false:=h12
 conv=>whnf
 repeat(refine VC.mk id ?_; conv=>whnf)
 refine⟨fun h13=>?_,fun h13=>?_⟩
 ·replace h13:((q.adjacent.length:Int) !=0&&(q.adjacent.length:Int) !=2)=true:=h13
  conv=>whnf
  rw[Bool.and_eq_true] at h13
  have e0:((q.adjacent.length:Int)==0)=false:=by simpa using h13.1
  have e1:(p.topology==1)=false:=by
   rw[Bool.and_eq_false_iff] at h12
   rcases h12 with h12|h12
   ·have:=of_decide_eq_false h12
    have:(q.adjacent.length:Int)≠0:=by simpa using e0
    omega
   ·exact h12
  exact ak.int (by rw[GR,e0,e1,h13.2]; rfl)
 replace h13:((q.adjacent.length:Int) !=0&&(q.adjacent.length:Int) !=2)=false:=h13
 rw[abf h12 h13]
 conv=>whnf
 refine aI.same [2,3,6] (fun i:Nat=>[(12,.int i)]) (fun i=>i<=q.adjacent.length/\(q.adjacent.take i).any (fun x=>oM x p.states.length)=false) (fun i=>q.adjacent.length-i) 0 rfl (by decide) rfl (fun _=>rfl) ⟨by omega,by simp⟩ ⟨⟨_,rfl,rfl⟩,trivial⟩ ?_
 conv=>whnf
 refine⟨rfl,?_⟩
 rintro k ⟨hk,adz⟩
 conv=>whnf
 refine⟨fun h14=>?_,fun h14=>?_⟩
 ·have hk':k<q.adjacent.length:=by simpa using h14
  conv=>whnf
  repeat(refine VC.mk (by simp only[okI,Rw.rng] at *; omega) ?_; conv=>whnf)
  refine ah.pure (S.aU (q.adjacent.getD k 0) 0 (p.states.length-1)) rfl ?_
  conv=>whnf
  refine⟨fun h15=>?_,fun h15=>?_⟩
  ·replace h15:(!(iF (q.adjacent.getD k 0) 0 (p.states.length-1)))=true:=h15
   rw[vF] at h15
   conv=>whnf
   exact ak.int (by rw[gI (d:=0) hk' h15]; rfl)
  ·replace h15:(!(iF (q.adjacent.getD k 0) 0 (p.states.length-1)))=false:=h15
   rw[vF] at h15
   conv=>whnf
   refine .mk (by simp only[okI] at *; omega) ?_
   conv=>whnf
   refine⟨k+1,⟨by omega,?_⟩,by omega,⟨⟨_,rfl,rfl⟩,trivial⟩,?_,rfl⟩
   ·rw[jE (d:=0) hk' adz]; exact h15
   ·repeat' (first|exact trivial|exact⟨_,rfl,rfl⟩|constructor)
 have hk':q.adjacent.length<=k:=by simpa using h14
 rw[List.take_of_length_le hk'] at adz
 conv=>whnf
 exact ak.int (by rw[adz]; rfl)
theorem ak.ae8{h:Hz}{j:Nat}{l:List Int}(q:h.get j=some (vZ l)):ak (.row 0 false (.ints l)) (.own j) h:=⟨F8 trivial q⟩
theorem ak.agr{h:Hz}{k k':Nat}{r:Rw}(e:r.len=0):ak (.row k false r) (.row k' true .nil) h:=⟨by
 have:r.bn=[]:=List.eq_nil_of_length_eq_zero (by rw[Rw.dR]; exact e)
 show T.sub (fun _=>True) h.ay (.sl k false r.bn) (.sl k' true [])
 rw[this]; simp[T.sub]⟩
theorem S.Lj(l:List Int)(f:Bool)(hl:l.length<2^30):aj Tryz.prog 92 [.row 0 f (.ints l)] (.row 0 false (.ints l)):=by
 refine aj.of Bd.fQ (by simp) rfl rfl ?_
 conv=>whnf
 refine XO.mk (fun hz=>?_) ?_
 ·conv=>whnf
  refine Fork.mk (fun _=>?_) (fun q=>absurd (q.symm.trans ((rfl:true=true))) Bool.false_ne_true)
  conv=>whnf
  exact ak.agr hz
 ·conv=>whnf
  refine Fork.mk (fun q=>absurd (q.symm.trans ((rfl:false=false))).symm Bool.false_ne_true) (fun _=>?_)
  conv=>whnf
  refine .mk (by simp only[nG,og,Rw.len]; omega) ?_
  conv=>whnf
  repeat(refine VC.mk (by simp only[nG,og,Rw.len]; omega) ?_; conv=>whnf)
  exact ak.ae8 rfl
theorem S.kK(l:List Int)(f:Bool)(hl:l.length<2^30):aj Tryz.prog 146 [.row 0 f (.ints l)] (.row 0 false (.ints l)):=by
 refine aj.of Bd.kK (by simp) rfl rfl ?_
 conv=>whnf
 refine .mk (by simp only[nG,og,Rw.len]; omega) ?_
 conv=>whnf
 exact ak.ae8 rfl
def mO(p:aO)(q:Prop'):List Int:=bif decide ((q.start.length:Int)>0) then q.start else p.initial
theorem yM{p:aO}{q:Prop'}(h:jf p q=0):dH p=0:=by
 unfold jf at h
 obtain⟨h1,_⟩:=bz nz h
 exact IL h1
theorem S.jv(p:aO)(q:Prop')(hp:fG p)(hq:iW q)(hv:jf p q=0):aj Tryz.prog 75 [.dat (.kS p),.dat (.prop q)] (.fP [.row 0 false (.ints (mO p q)),.int 0]):=by
 have g5:=hp.initial; have q1:=hq.start
 refine aj.of Bd.jv (by simp) rfl rfl ?_
 conv=>whnf
 refine ah.pure (S.dw p q hp hq) rfl ?_
 conv=>whnf
 refine Fork.mk (fun q=>absurd (q.symm.trans ((by simp[hv]))).symm Bool.false_ne_true) (fun _=>?_)
 conv=>whnf
 refine⟨fun h2=>?_,fun h2=>?_⟩
 ·conv=>whnf
  refine ah.pure (S.Lj q.start false q1) rfl ?_
  conv=>whnf
  exact ak.eqv (by rw[mO,show decide ((q.start.length:Int)>0)=true from h2]; rfl)
 ·conv=>whnf
  refine ah.pure (S.Lj p.initial false g5) rfl ?_
  conv=>whnf
  exact ak.eqv (by rw[mO,show decide ((q.start.length:Int)>0)=false from h2]; rfl)
theorem S.jA(p:aO)(q:Prop')(hp:fG p)(hq:iW q):aj Tryz.prog 117 [.dat (.kS p),.dat (.prop q)] (.row 0 false (.ints (mO p q))):=by
 have g5:=hp.initial; have q1:=hq.start
 refine aj.of Bd.jA (by simp) rfl rfl ?_
 conv=>whnf
 refine⟨fun h2=>?_,fun h2=>?_⟩
 ·conv=>whnf
  refine ah.pure (S.kK q.start false q1) rfl ?_
  conv=>whnf
  exact ak.eqv (by rw[mO,show decide ((q.start.length:Int)>0)=true from h2]; rfl)
 ·conv=>whnf
  refine ah.pure (S.kK p.initial false g5) rfl ?_
  conv=>whnf
  exact ak.eqv (by rw[mO,show decide ((q.start.length:Int)>0)=false from h2]; rfl)
theorem S.pz(p:aO)(q:Prop')(hp:fG p)(hq:iW q)(hv:jf p q=0):aj Tryz.prog 83 [.dat (.kS p),.dat (.prop q)] (.fP [.row 0 false (.ints (mO p q)),.int 0]):=by
 refine aj.of Bd.pz (by simp) rfl rfl ?_
 conv=>whnf
 refine ah.pure (S.dX p q hp hq) rfl ?_
 conv=>whnf
 refine Fork.mk (fun q=>absurd (q.symm.trans ((by simp[hv]))).symm Bool.false_ne_true) (fun _=>?_)
 conv=>whnf
 refine ah.pure (S.jA p q hp hq) rfl ?_
 conv=>whnf
 exact ak.eqv rfl
theorem KP{p:aO}{q:Prop'}(hp:fG p)(hq:iW q):(mO p q).length<2^30:=by
 unfold mO
 cases decide ((q.start.length:Int)>0)
 ·exact hp.initial
 ·exact hq.start
end Go.Proofs.YtajmbgljnaljiaaGreatDoor
