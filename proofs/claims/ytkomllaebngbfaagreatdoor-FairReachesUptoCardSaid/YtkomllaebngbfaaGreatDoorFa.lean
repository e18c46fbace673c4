/-
 A part of the proof. No condition.
-/
import Derived.Test.YtkomllaebngbfaaGreatDoorRb
import Derived.Test.YtkomllaebngbfaaGreatDoorLg
import Derived.Test.YtkomllaebngbfaaGreatDoorKa
namespace Go.Proofs.YtkomllaebngbfaaGreatDoor
open Go.Ab Go.Proofs
set_option maxRecDepth 100000
def DZ(s:Int):List Int->Nat->Int
 |[],_=> -1
 |x::r,i=>bif s==x then(i:Int) else DZ s r (i+1)
theorem Yj{s:Int}{l:List Int}:decide (0<=DZ s l 0)=l.any fun x=>s==x:=by
 have: ∀ {l:List Int} {i:Nat},0<=DZ s l i↔(l.any fun x=>s==x)=true:=by
  intro l
  induction l with
  |nil=>intro i; simp[DZ]
  |cons x r ih =>
   intro i
   rw[List.any_cons,Bool.or_eq_true,<- ih (i:=i+1)]
   show(0:Int)<=(bif s==x then(i:Int) else DZ s r (i+1))↔_
   generalize (s==x)=b
   cases b<;>simp
 rw[Bool.eq_iff_iff,decide_eq_true_eq]; exact this
theorem S.slices_Index_int(l:List Int)(s:Int)(f:Bool)(hl:l.length<2^40):aj Tryz.prog 159 [.row 0 f (.ints l),.int s] (.int (DZ s l 0)):=by
 refine aj.of Bd.iW (by simp) rfl rfl ?_
 conv=>whnf
 refine aI.same [0,1,6,7] (fun i:Nat=>[(8,.int i)]) (fun i=>i<=l.length/\DZ s l 0=DZ s (l.drop i) i) (fun i=>l.length-i) 0 rfl (by decide) rfl (fun _=>rfl) ⟨by omega,by simp⟩ ⟨⟨_,rfl,rfl⟩,trivial⟩ ?_
 conv=>whnf
 refine⟨rfl,?_⟩
 rintro i ⟨hi,hall⟩
 conv=>whnf
 refine⟨fun h3=>?_,fun h3=>?_⟩
 ·have hi':i<l.length:=by simpa using h3
  rw[dN 0 hi'] at hall
  simp only[DZ] at hall
  conv=>whnf
  refine .mk (by simp only[Rw.rng] at *; first|omega|(simp_all; done)|(simp_all; omega)) ?_
  conv=>whnf
  refine⟨fun h4=>?_,fun h4=>?_⟩
  ·conv=>whnf
   refine ak.int ?_
   have h4':(s==l.getD i 0)=true:=h4
   rw[hall,h4']; rfl
  ·conv=>whnf
   refine .mk (by simp only[okI] at *; first|omega|(simp_all; done)|(simp_all; omega)) ?_
   conv=>whnf
   refine⟨i+1,⟨by omega,?_⟩,by omega,⟨⟨_,rfl,rfl⟩,trivial⟩,?_,rfl⟩
   ·have h4':(s==l.getD i 0)=false:=h4
    rw[hall,h4']; rfl
   ·repeat' (first|exact trivial|exact⟨_,rfl,rfl⟩|constructor)
 ·conv=>whnf
  refine ak.int ?_
  have hi':l.length<=i:=by simpa using h3
  rw[hall,List.drop_eq_nil_of_le hi']; rfl
def yR(l:List Int)(s:Int):Bool:=l.any fun x=>s==x
theorem S.slices_Contains_int(l:List Int)(s:Int)(f:Bool)(hl:l.length<2^40):aj Tryz.prog 118 [.row 0 f (.ints l),.int s] (.bool (yR l s)):=by
 refine aj.of Bd.gy (by simp) rfl rfl ?_
 conv=>whnf
 refine ah.pure (S.slices_Index_int l s f hl) rfl ?_
 conv=>whnf
 exact ak.bool Yj.symm
theorem S.CJ(l:List Int)(s:Int)(f:Bool)(hl:l.length<2^40):aj Tryz.prog 140 [.row 0 f (.ints l),.int s] (.bool (yR l s)):=by
 refine aj.of Bd.CJ (by simp) rfl rfl ?_
 conv=>whnf
 refine aI.same [0,1] (fun i:Nat=>[(5,.int i)]) (fun i=>i<=l.length/\(l.take i).any (fun x=>s==x)=false) (fun i=>l.length-i) 0 rfl (by decide) rfl (fun _=>rfl) ⟨by omega,by simp⟩ ⟨⟨_,rfl,rfl⟩,trivial⟩ ?_
 conv=>whnf
 refine⟨rfl,?_⟩
 rintro i ⟨hi,hall⟩
 conv=>whnf
 refine⟨fun h3=>?_,fun h3=>?_⟩
 ·have hi':i<l.length:=by simpa using h3
  conv=>whnf
  refine .mk (by simp only[Rw.rng] at *; first|omega|(simp_all; done)|(simp_all; omega)) ?_
  conv=>whnf
  refine⟨fun h4=>?_,fun h4=>?_⟩
  ·have h4':(s==l.getD i 0)=true:=by rw[show(s==l.getD i 0)=(l.getD i 0==s) from Bool.beq_comm]; exact h4
   conv=>whnf
   exact ak.bool (iF (d:=0) hi' h4')
  ·have h4':(s==l.getD i 0)=false:=by rw[show(s==l.getD i 0)=(l.getD i 0==s) from Bool.beq_comm]; exact h4
   conv=>whnf
   refine .mk (by simp only[okI] at *; first|omega|(simp_all; done)|(simp_all; omega)) ?_
   conv=>whnf
   refine⟨i+1,⟨by omega,?_⟩,by omega,⟨⟨_,rfl,rfl⟩,trivial⟩,?_,rfl⟩
   ·rw[jS (d:=0) hi' hall]; exact h4'
   ·repeat' (first|exact trivial|exact⟨_,rfl,rfl⟩|constructor)
 ·have hi':l.length<=i:=by simpa using h3
  rw[List.take_of_length_le hi'] at hall
  conv=>whnf
  exact ak.bool hall
def D5(c l:List Int):Bool:=l.any fun q=>decide (c.getD q.toNat 0>0)
def rE(n:Nat)(l:List Int):Prop:= ∀ q∈l,0<=q/\q<n
theorem S.vH(c l:List Int)(f g:Bool)(_hc:c.length<2^40)(hl:l.length<2^40)(hp:rE c.length l):aj Tryz.prog 93 [.row 0 f (.ints c),.row 0 g (.ints l)] (.bool (D5 c l)):=by
 refine aj.of Bd.vH (by simp) rfl rfl ?_
 conv=>whnf
 refine aI.same [0,1] (fun i:Nat=>[(5,.int i)]) (fun i=>i<=l.length/\(l.take i).any (fun q=>decide (c.getD q.toNat 0>0))=false) (fun i=>l.length-i) 0 rfl (by decide) rfl (fun _=>rfl) ⟨by omega,by simp⟩ ⟨⟨_,rfl,rfl⟩,trivial⟩ ?_
 conv=>whnf
 refine⟨rfl,?_⟩
 rintro i ⟨hi,hall⟩
 conv=>whnf
 refine⟨fun h3=>?_,fun h3=>?_⟩
 ·have hi':i<l.length:=by simpa using h3
  have hq:0<=l.getD i 0/\l.getD i 0<c.length:=by
   rw[show l.getD i 0=l[i] by simp[hi']]; exact hp _ (List.getElem_mem hi')
  conv=>whnf
  repeat(refine VC.mk (by simp only[Rw.rng] at *; first|omega|(simp_all; done)|(simp_all; omega)) ?_; conv=>whnf)
  refine⟨fun h4=>?_,fun h4=>?_⟩
  ·conv=>whnf
   exact ak.bool (iF (d:=0) hi' h4)
  ·conv=>whnf
   refine .mk (by simp only[okI] at *; first|omega|(simp_all; done)|(simp_all; omega)) ?_
   conv=>whnf
   refine⟨i+1,⟨by omega,?_⟩,by omega,⟨⟨_,rfl,rfl⟩,trivial⟩,?_,rfl⟩
   ·rw[jS (d:=0) hi' hall]; exact h4
   ·repeat' (first|exact trivial|exact⟨_,rfl,rfl⟩|constructor)
 ·have hi':l.length<=i:=by simpa using h3
  rw[List.take_of_length_le hi'] at hall
  conv=>whnf
  exact ak.bool hall
def zU(c l:List Int):Bool:=(List.range c.length).any fun i=>decide (c.getD i 0>0)&& !(yR l i)
theorem S.nO(c l:List Int)(f g:Bool)(hc:c.length<2^40)(hl:l.length<2^40):aj Tryz.prog 94 [.row 0 f (.ints c),.row 0 g (.ints l)] (.bool (zU c l)):=by
 refine aj.of Bd.nO (by simp) rfl rfl ?_
 conv=>whnf
 refine aI.same [0,1] (fun i:Nat=>[(5,.int i)]) (fun i=>i<=c.length/\(List.range i).any (fun i=>decide (c.getD i 0>0)&& !(yR l i))=false) (fun i=>c.length-i) 0 rfl (by decide) rfl (fun _=>rfl) ⟨by omega,by simp⟩ ⟨⟨_,rfl,rfl⟩,trivial⟩ ?_
 conv=>whnf
 refine⟨rfl,?_⟩
 rintro i ⟨hi,hall⟩
 conv=>whnf
 refine⟨fun h3=>?_,fun h3=>?_⟩
 ·have hi':i<c.length:=by simpa using h3
  conv=>whnf
  repeat(refine VC.mk (by first|exact fun h=>⟨h,h⟩|(simp only[Rw.rng] at *; first|omega|(simp_all; done)|(simp_all; omega))) ?_; conv=>whnf)
  refine ah.gG (fun _=>S.CJ l i g hl) rfl ?_
  conv=>whnf
  repeat(refine VC.mk id ?_; conv=>whnf)
  refine⟨fun h4=>?_,fun h4=>?_⟩
  ·conv=>whnf
   exact ak.bool (nY.2 ⟨i,hi',h4⟩)
  ·conv=>whnf
   refine .mk (by simp only[okI] at *; first|omega|(simp_all; done)|(simp_all; omega)) ?_
   conv=>whnf
   refine⟨i+1,⟨by omega,?_⟩,by omega,⟨⟨_,rfl,rfl⟩,trivial⟩,?_,rfl⟩
   ·rw[List.range_succ,List.any_append,hall]
    simp only[List.any_cons,List.any_nil,Bool.or_false,Bool.false_or]; exact h4
   ·repeat' (first|exact trivial|exact⟨_,rfl,rfl⟩|constructor)
 ·have hi':c.length<=i:=by simpa using h3
  have e:i=c.length:=Nat.le_antisymm hi hi'
  subst e
  conv=>whnf
  exact ak.bool hall
def xu(ex c:List Int)(i:Nat):Bool:=((ex.length:Int)==0)||(List.range i).any fun j=> !(c.getD j 0==0)&&yR ex j
def zO(al c:List Int)(i:Nat):Bool:=(List.range i).any fun j=> !(c.getD j 0==0)&&(decide ((al.length:Int)>0)&& !(yR al j))
def xg(r:Rule)(c:List Int):Bool:= !(zO r.all c c.length)&&xu r.ex c c.length
theorem Ic{ex c:List Int}{i:Nat}:xu ex c (i+1)=(xu ex c i||(!(c.getD i 0==0)&&yR ex i)):=by
 simp only[xu,List.range_succ,List.any_append,List.any_cons,List.any_nil,Bool.or_false,Bool.or_assoc]
theorem Ib{al c:List Int}{i:Nat}:zO al c (i+1)=(zO al c i||(!(c.getD i 0==0)&&(decide ((al.length:Int)>0)&& !(yR al i)))):=by
 simp only[zO,List.range_succ,List.any_append,List.any_cons,List.any_nil,Bool.or_false]
theorem OX{al c:List Int}{i:Nat}(hi:i<c.length)(h0:(c.getD i 0==0)=false)(h:(decide ((al.length:Int)>0)&& !(yR al i))=true):zO al c c.length=true :=
 nY.2 ⟨i,hi,by rw[h0,h]; rfl⟩
structure zN(n:Nat)(r:Rule):Prop where
 src:0<=r.fr/\r.fr<n
 dst:0<=r.to/\r.to<n
 aaI:0<=r.gI/\r.gI<n
 aaJ:0<=r.AO/\r.AO<n
 rsp:r.kind=3->r.response.length=n/\rE n r.response
 exs:rE n r.ex
def F7(c:List Int):Prop:= ∀ x∈c,0<=x/\x<=1048576
def gX(c:List Int)(i d:Int):List Int:=c.set i.toNat (c.getD i.toNat 0+d)
def aQ(c:List Int)(i:Int):List Int:=c.set i.toNat (c.getD i.toNat 0-1)
def oK(r:Rule)(c:List Int)(i:Nat):List Int:=(List.range i).foldl (fun a j=>gX a (r.response.getD j 0) (c.getD j 0)) (List.replicate c.length 0)
def gJ(r:Rule)(e:Elem):Option Elem :=
 let c1:=aQ e.counts r.fr
 let out (c:List Int):Option Elem:=some ⟨bif decide (r.write>=0) then r.write else e.value,gX c r.to 1⟩
 bif (decide (0<=r.read)&&e.value !=r.read||e.counts.getD r.fr.toNat 0==0) then none else
 bif r.kind==1 then(bif !(xg r c1) then none else out c1) else
 bif r.kind==2 then(bif c1.getD r.gI.toNat 0==0 then none else out (gX (aQ c1 r.gI) r.AO 1)) else
 bif r.kind==3 then out (oK r c1 c1.length) else out c1
def gY(r:Rule)(e:Elem):V:=match gJ r e with
 |none=>.fJ [.agg [.int 0,.row 0 true .nil],.bool false]
 |some x=>.fJ [.dat (.elem x),.bool true]
theorem Ie(r:Rule)(e:Elem):(gY r e).free=true:=by
 unfold gY; cases gJ r e<;>rfl
def KQ(r:Rule)(e:Elem):V:=.fJ [.dat (.elem ((gJ r e).getD ⟨0,[]⟩)),.bool (gJ r e).isSome]
theorem VZ{Z:Nat->Prop}{h:Hp}(r:Rule)(e:Elem):T.sub Z h (KQ r e).aG (gY r e).aG:=by
 unfold KQ gY
 cases gJ r e with
 |none =>
  show T.sub Z h (.fJ [.agg [.int 0,.sl 0 false []],.bool false]) (.fJ [.agg [.int 0,.sl 0 true []],.bool false])
  simp[T.sub,T.dJ]
 |some x=>exact dS _
theorem aj.KQ{f:FuncId}{r:Rule}{e:Elem}(S:aj Tryz.prog f [.dat (.rule r),.dat (.elem e)] (gY r e)):aj Tryz.prog f [.dat (.rule r),.dat (.elem e)] (KQ r e) :=
 qY.shut S (fun _=>VZ r e) rfl
theorem F7.get{c:List Int}(h:F7 c){i:Nat}(hi:i<c.length):0<=c.getD i 0/\c.getD i 0<=1048576:=by
 rw[show c.getD i 0=c[i] by simp[hi]]; exact h _ (List.getElem_mem hi)
theorem Ih{h:Hz}{j:Nat}{Z:Nat->Prop}{l:List Int}(hz:Z j)(q:h.get j=some (.row 3 0 (.ints l) [])):T.sub Z h.ay (V.row 0 false (.ints l)).aG (V.own j).aG:=by
 show T.sub Z h.ay (.sl 0 false (l.map T.int)) (.own j)
 simp only[T.sub]
 refine⟨trivial,hz,?_,by decide,3,?_⟩
 ·rw[fZ]; intro t ht; obtain⟨x,_,rfl⟩:=List.mem_map.1 ht; rfl
 ·have:=aV q
  rw[this]; simp[OV.aF,Rw.bn,V.bn]
def okB(b:Int)(c:List Int):Prop:= ∀ x∈c,-b<=x/\x<=b
theorem okB.get{b:Int}{c:List Int}(h:okB b c)(hb:0<=b)(i:Nat): -b<=c.getD i 0/\c.getD i 0<=b:=by
 by_cases hi:i<c.length
 ·rw[show c.getD i 0=c[i] by simp[hi]]; exact h _ (List.getElem_mem hi)
 ·rw[show c.getD i 0=0 by simp[List.getD_eq_getElem?_getD,List.getElem?_eq_none (by omega:c.length<=i)]]; omega
theorem okB.add{b k:Int}{c:List Int}(h:okB b c)(hb:0<=b)(i d:Int)(hd: -k<=d/\d<=k):okB (b+k) (gX c i d):=by
 intro x hx
 have hk:0<=k:=by omega
 rcases List.mem_or_eq_of_mem_set hx with hx|rfl
 ·have:=h x hx; omega
 ·have:=h.get hb i.toNat; omega
theorem okB.dec{b:Int}{c:List Int}(h:okB b c)(hb:0<=b)(i:Int):okB (b+1) (aQ c i):=by
 have:=h.add hb i (-1) (k:=1) ⟨by omega,by omega⟩
 rw[show aQ c i=gX c i (-1) by simp only[aQ,gX]; rfl]; exact this
theorem F7.b{c:List Int}(h:F7 c):okB 1048576 c:=fun x hx=>by have:=h x hx; omega
theorem ak.wH{h:Hz}{j:Nat}{v:Int}{l:List Int}(q:h.get j=some (.row 3 0 (.ints l) [])):ak (.fJ [.dat (.elem ⟨v,l⟩),.bool true]) (.fJ [.agg [.int v,.own j],.bool true]) h:=⟨by
 show T.sub (fun _=>True) h.ay (.fJ [.agg [.int v,.sl 0 false (l.map T.int)],.bool true]) (.fJ [.agg [.int v,.own j],.bool true])
 have:=Ih (Z:=fun _=>True) trivial q
 replace this:T.sub (fun _=>True) h.ay (.sl 0 false (l.map T.int)) (.own j):=this
 simp only[T.sub] at this
 simp only[T.sub,T.dJ]
 exact⟨⟨trivial,this,trivial⟩,trivial,trivial⟩⟩
theorem DC{n:Nat}(h:0<n):(bif isZero (.int n) then some Rw.nil else XY (n:Int).toNat (T.int 0))=some (.ints (List.replicate n 0)):=by
 cases n with
 |zero=>omega
 |succ k=>rfl
theorem uK{r:Rule}{c:List Int}{i:Nat}:oK r c (i+1)=gX (oK r c i) (r.response.getD i 0) (c.getD i 0):=by
 simp only[oK,List.range_succ,List.foldl_append,List.foldl_cons,List.foldl_nil]
theorem qH{r:Rule}{c:List Int}{i:Nat}:(oK r c i).length=c.length:=by
 induction i with
 |zero=>simp[oK]
 |succ i ih=>rw[uK]; simp[gX,ih]
theorem XO{r:Rule}{c:List Int}{b:Int}(h:okB b c)(hb:0<=b)(i:Nat):okB (i*b) (oK r c i):=by
 induction i with
 |zero=>intro x hx; simp[oK] at hx; omega
 |succ i ih =>
  rw[uK]
  have h0:0<=(i:Int)*b:=Int.mul_nonneg (by omega) hb
  have:=ih.add h0 (r.response.getD i 0) (c.getD i 0) (k:=b) (h.get hb i)
  rw[show((i+1:Nat):Int)*b=i*b+b by rw[Int.natCast_add,Int.add_mul]; simp]; exact this
abbrev xJ(l:List Int):OV:=.row 3 0 (.ints l) []
theorem S.V3(e:Elem)(he:e.counts.length<2^30)(n:Nat):aO Tryz.prog 92 (V.bn [.dat (.elem e)]) (Hz.ay []) n (fun t hp=>t= .agg [.int e.value,.own n]/\hp=Hz.ay [(n,some (xJ e.counts))]):=by
 refine oL.of (nx:=0) Bd.oM (by simp) ⟨_,_,rfl,rfl⟩ rfl rfl ?_
 conv=>whnf
 refine .mk (by simp only[nI,oz,Rw.len]; omega) ?_
 conv=>whnf
 exact nC.one (c:=n) (j:=7) (o:=xJ e.counts) (t:=.agg [.int e.value,.own n]) rfl rfl rfl nofun (.inr rfl) ⟨trivial,rfl,trivial⟩ (.eq rfl) ⟨rfl,rfl⟩
theorem S.EX(e:Elem)(he:e.counts.length<2^30):qY Tryz.prog 92 [dZ e] (fun n=>.agg [.int e.value,.own n]) (some ⟨3,0,e.counts.map T.int⟩):=by
 refine⟨by exact V.lD [.dat (.elem e)] rfl,fun n=>⟨trivial,rfl,trivial⟩,fun ob h=>?_,fun ob h=>?_,fun n=>?_⟩
 ·cases h
  show T.bC (e.counts.map T.int)=true
  rw[fZ]; intro t ht; obtain⟨x,_,rfl⟩:=List.mem_map.1 ht; rfl
 ·cases h; exact show(0:Nat)≠dI by decide
 ·have:=S.V3 e he n
  have e1:Hz.ay [(n,some (xJ e.counts))]=fU no n (some ⟨3,0,e.counts.map T.int⟩):=by
   rw[bQ]; simp[fU,OV.aF,Rw.bn,V.bn]; rfl
  rw[e1] at this
  exact this
theorem MO{h:Hz}{n:Nat}{l:List Int}:fU h.ay n (some ⟨3,0,l.map T.int⟩)=Hz.ay ((n,some (xJ l))::h):=by
 rw[bQ]; simp[fU,OV.aF,Rw.bn,V.bn]
theorem lt1{x:Int}(h:0<=x):decide (x<1)=(x==0):=by
 rw[Bool.eq_iff_iff]; simp; omega
theorem aaZ{l:List Int}{s:Int}:yR l s=true↔s∈l:=by
 simp only[yR,List.any_eq_true,beq_iff_eq]
 constructor
 ·rintro⟨x,h,rfl⟩; exact h
 ·intro h; exact⟨s,h,rfl⟩
theorem Yk{al c:List Int}(hc: ∀ i,0<=c.getD i 0):zO al c c.length=(decide (0<(al.length:Int))&&zU c al):=by
 rw[Bool.eq_iff_iff,Bool.and_eq_true]
 simp only[zO,zU,nY,Bool.and_eq_true,decide_eq_true_eq,Bool.not_eq_true',beq_eq_false_iff_ne,ne_eq]
 constructor
 ·rintro⟨i,h1,h2,h3,h4⟩
  exact⟨h3,i,h1,by have:=hc i; omega,h4⟩
 ·rintro⟨h3,i,h1,h2,h4⟩
  exact⟨i,h1,by omega,h3,h4⟩
theorem found_eq{ex c:List Int}(hc: ∀ i,0<=c.getD i 0)(hx:rE c.length ex):(!(xu ex c c.length))=(decide (0<(ex.length:Int))&& !(D5 c ex)):=by
 have h:xu ex c c.length=(!(decide (0<(ex.length:Int)))||D5 c ex):=by
  rw[xu]
  congr 1
  ·rw[Bool.eq_iff_iff]; simp
  ·rw[Bool.eq_iff_iff]
   simp only[D5,List.mem_range,Bool.and_eq_true,decide_eq_true_eq,Bool.not_eq_true',beq_eq_false_iff_ne,ne_eq,List.any_eq_true,aaZ]
   constructor
   ·rintro⟨i,h1,h2,h3⟩
    exact⟨i,h3,by have:=hc i; simp only[Int.toNat_natCast]; omega⟩
   ·rintro⟨q,h1,h2⟩
    obtain⟨t1,t2⟩:=hx q h1
    have t3:q.toNat<c.length:=by omega
    have t4: ¬ c.getD q.toNat 0=0:=by omega
    exact⟨q.toNat,t3,t4,by rw[Int.toNat_of_nonneg t1]; exact h1⟩
 rw[h]; cases decide (0<(ex.length:Int))<;>cases D5 c ex<;>rfl
theorem PW{r:Rule}{c:List Int}(hc: ∀ i,0<=c.getD i 0)(hx:rE c.length r.ex) :
  ((decide (0<(r.ex.length:Int))&& !(D5 c r.ex))||(decide (0<(r.all.length:Int))&&zU c r.all))= !(xg r c):=by
 rw[xg,Bool.not_and,Bool.not_not,Yk hc,found_eq hc hx,Bool.or_comm]
theorem Uk{r:Rule}{e:Elem}(hc:F7 e.counts)(h1:(decide (0<=r.read)&&e.value !=r.read||e.counts.getD r.fr.toNat 0==0)=false)(i:Nat):0<=(aQ e.counts r.fr).getD i 0:=by
 have h0: ∀ j,0<=e.counts.getD j 0:=fun j=>by
  by_cases hj:j<e.counts.length
  ·exact(hc.get hj).1
  ·rw[show e.counts.getD j 0=0 by simp[List.getD_eq_getElem?_getD,List.getElem?_eq_none (by omega:e.counts.length<=j)]]; omega
 have h2:e.counts.getD r.fr.toNat 0≠0:=by
  rw[Bool.or_eq_false_iff] at h1
  have:=h1.2
  simpa using this
 have h3:=h0 r.fr.toNat
 have h4:=h0 i
 rw[aQ,List.getD_eq_getElem?_getD,List.getElem?_set]
 split
 ·split
  ·simp only[Option.getD_some]; omega
  ·simp
 ·rw[<- List.getD_eq_getElem?_getD]; exact h4
theorem okF{ρ:Nat->Nat}{nx pn c n:Nat}{h:Hz}{s:List Nat}{o o':OV}(q1:Nat.blt c nx=true)(q2:Nat.blt c pn=true->n=c)(q3:DN n s=true)(q4:(o.good nx&&o.Rq)=true)(q5:h.get n=some o')
  (q6:o'.aF.ty=o.aF.ty/\o'.aF.k=o.aF.k) (q7:o.aF.l=o'.aF.l):Nat.blt c nx=true/\(Nat.blt c pn=true->n=c)/\DN n s=true/\o.good nx=true /\
   ∃ o',h.get n=some o'/\o'.aF.ty=o.aF.ty/\o'.aF.k=o.aF.k/\dQ (T.dO ρ o.aF.l) o'.aF.l:=by
 rw[Bool.and_eq_true] at q4
 exact⟨q1,q2,q3,q4.1,o',q5,q6.1,q6.2,dQ.of_eq ((OV.DR q4.2 ρ).trans q7)⟩
set_option maxHeartbeats 1000000 in
theorem S.vF(r:Rule)(e:Elem)(hr:xk r)(hp:zN e.counts.length r)(hc:F7 e.counts)(hl:e.counts.length<=6):aj Tryz.prog 43 [.dat (.rule r),.dat (.elem e)] (gY r e):=by
 obtain⟨f1,f2⟩:=hp.src
 obtain⟨d1,d2⟩:=hp.dst
 obtain⟨p1,p2⟩:=hp.aaI
 obtain⟨q1,q2⟩:=hp.aaJ
 have hfr:=hc.get (i:=r.fr.toNat) (by omega)
 refine aj.of Bd.vF (by simp) rfl (Ie r e) ?_
 conv=>whnf
 repeat(refine VC.mk (by first|exact id|exact fun h=>⟨h,h⟩|(intro h; rw[h]; rfl)|(intro h; (repeat' apply And.intro)<;>first|exact h|omega|(simp only[Rw.pq]; omega)|(simp only[Rw.rng]; omega))) ?_; conv=>whnf)
 refine⟨fun h1=>?_,fun h1=>?_⟩
 ·conv=>whnf
  refine ak.eqv ?_
  rw[lt1 hfr.1] at h1
  rw[gY,gJ,h1]; rfl
 rw[lt1 hfr.1] at h1
 conv=>whnf
 refine ah.heap (qY.frame (S.EX e (by omega)) _ _) ?_
 rintro t hp ⟨rfl,rfl⟩
 refine⟨.agg [.int e.value,.own 24],(24,some (xJ e.counts))::_,rfl,MO,?_⟩
 have hl1:(aQ e.counts r.fr).length=e.counts.length:=by simp[aQ]
 conv=>whnf
 repeat(refine VC.mk (by first|(first|(simp only[Rw.rng]; omega)|(simp only[okI,aQ] at *; omega))|exact fun h=>h|exact fun h=>⟨h,h⟩) ?_; conv=>whnf)
 have hex:=hr.ex
 have hal:=hr.all
 refine ah.Yl (fun _=>S.vH (aQ e.counts r.fr) r.ex false false (by omega) (by omega) (by rw[hl1]; exact hp.exs)) (fun _=>And.intro (Ih trivial rfl) (And.intro (dS _) trivial)) rfl rfl ?_
 conv=>whnf
 repeat(refine VC.mk (by first|exact id|exact fun h=>⟨h,h⟩|(intro h; simp[h]; done)) ?_; conv=>whnf)
 refine ah.Yl (fun _=>S.nO (aQ e.counts r.fr) r.all false false (by omega) (by omega)) (fun _=>And.intro (Ih trivial rfl) (And.intro (dS _) trivial)) rfl rfl ?_
 conv=>whnf
 repeat(refine VC.mk (by cases (r.kind==1)<;>cases (decide (0<(r.ex.length:Int))&& !D5 (aQ e.counts r.fr) r.ex)<;>simp) ?_; conv=>whnf)
 have hpos: ∀ i,0<=(aQ e.counts r.fr).getD i 0:=Uk hc h1
 refine⟨fun h2=>?_,fun h2=>?_⟩
 ·replace h2:((r.kind==1)&&((decide (0<(r.ex.length:Int))&& !(D5 (aQ e.counts r.fr) r.ex))||(decide (0<(r.all.length:Int))&&zU (aQ e.counts r.fr) r.all)))=true:=h2
  rw[PW hpos (by rw[hl1]; exact hp.exs),Bool.and_eq_true] at h2
  conv=>whnf
  refine ak.eqv ?_
  rw[gY,gJ,h1,h2.1,h2.2]; rfl
 replace h2:((r.kind==1)&&((decide (0<(r.ex.length:Int))&& !(D5 (aQ e.counts r.fr) r.ex))||(decide (0<(r.all.length:Int))&&zU (aQ e.counts r.fr) r.all)))=false:=h2
 rw[PW hpos (by rw[hl1]; exact hp.exs)] at h2
 conv=>whnf
 refine⟨fun h5=>?_,fun h5=>?_⟩
 ·replace h5:(r.kind==2)=true:=h5
  have hB:=hc.b.dec (by omega) r.fr
  have hB1:=hB.get (by omega) r.gI.toNat
  have hB2:=hB.dec (by omega) r.gI
  have hB3:=hB2.get (by omega) r.AO.toNat
  have hB4:=hB2.add (by omega) r.AO 1 (k:=1) ⟨by omega,by omega⟩
  have hB5:=hB4.get (by omega) r.to.toNat
  have h12:(r.kind==1)=false:=by rw[beq_iff_eq.1 h5]; rfl
  conv=>whnf
  repeat(refine VC.mk (by first|(simp only[Rw.rng,List.length_set]; omega)|(simp only[aQ,gX] at *; omega)) ?_; conv=>whnf)
  refine⟨fun h6=>?_,fun h6=>?_⟩
  ·replace h6:decide ((aQ e.counts r.fr).getD r.gI.toNat 0<1)=true:=h6
   rw[lt1 (hpos _)] at h6
   conv=>whnf
   refine ak.eqv ?_
   rw[gY,gJ,h1,h12,h5,h6]; rfl
  ·replace h6:decide ((aQ e.counts r.fr).getD r.gI.toNat 0<1)=false:=h6
   rw[lt1 (hpos _)] at h6
   have h13:(r.kind==3)=false:=by rw[beq_iff_eq.1 h5]; rfl
   conv=>whnf
   repeat(refine VC.mk (by first|(simp only[Rw.rng,List.length_set]; omega)|(simp only[okI,aQ,gX] at *; omega)) ?_; conv=>whnf)
   refine Fork.mk (fun q=>absurd (q.symm.trans (h13)).symm Bool.false_ne_true) (fun _=>?_)
   conv=>whnf
   repeat(refine VC.mk (by simp only[okI,Rw.rng] at *; first|omega|(simp_all; done)|(simp_all; omega)) ?_; conv=>whnf)
   conv=>whnf
   repeat(refine VC.mk (by first|(simp only[Rw.rng,List.length_set]; omega)|(simp only[okI,aQ,gX] at *; omega)) ?_; conv=>whnf)
   refine⟨fun h4=>?_,fun h4=>?_⟩
   ·replace h4:decide (r.write>=0)=true:=h4
    have hS:gY r e= .fJ [.dat (.elem ⟨r.write,gX (gX (aQ (aQ e.counts r.fr) r.gI) r.AO 1) r.to 1⟩),.bool true]:=by rw[gY,gJ,h1,h12,h5,h6,h4]; rfl
    conv=>whnf
    rw[hS]
    exact ak.wH rfl
   ·replace h4:decide (r.write>=0)=false:=h4
    have hS:gY r e= .fJ [.dat (.elem ⟨e.value,gX (gX (aQ (aQ e.counts r.fr) r.gI) r.AO 1) r.to 1⟩),.bool true]:=by rw[gY,gJ,h1,h12,h5,h6,h4]; rfl
    conv=>whnf
    rw[hS]
    exact ak.wH rfl
 ·replace h5:(r.kind==2)=false:=h5
  conv=>whnf
  refine⟨fun h6=>?_,fun h6=>?_⟩
  ·have h12:(r.kind==1)=false:=by rw[beq_iff_eq.1 h6]; rfl
   have hB:=hc.b.dec (by omega) r.fr
   obtain⟨rs1,rs2⟩:=hp.rsp (beq_iff_eq.1 h6)
   conv=>whnf
   have hm:=DC (n:=(aQ e.counts r.fr).length) (by omega)
   simp only[aQ] at hm
   rw[hm]
   conv=>whnf
   refine .mk (by simp only[List.length_set]; omega) ?_
   conv=>whnf
   refine aI.qg 100 [2,4,6] (fun i:Nat=>[(8,.int i),(7,.own 75)]) (fun i=>[(0,.box 71 19 (.dat (.rule r))),(1,.box 50 3 (.dat (.elem e))),(2,.box 50 3 (.agg [.int 0,.row 0 true .nil])),(24,xJ (aQ e.counts r.fr)),(25,.box 50 3 (.agg [.int e.value,.own 24])),(75,xJ (oK r (aQ e.counts r.fr) i))]) (fun i=>i<=(aQ e.counts r.fr).length) (fun i=>(aQ e.counts r.fr).length-i) 0 [0,1,2,24,25,75] rfl (by decide) (fun _=>rfl) (Nat.zero_le _) ?_ ?_ ?_
   ·exact⟨⟨_,rfl,.eq rfl⟩,⟨_,rfl,.eq rfl⟩,trivial⟩
   ·exact⟨okF rfl nofun rfl rfl rfl ⟨rfl,rfl⟩ rfl,okF rfl nofun rfl rfl rfl ⟨rfl,rfl⟩ rfl,okF rfl nofun rfl rfl rfl ⟨rfl,rfl⟩ rfl,okF rfl nofun rfl rfl rfl ⟨rfl,rfl⟩ rfl,⟨rfl,nofun,rfl,rfl,_,rfl,rfl,rfl,dQ.of_eq rfl⟩,okF rfl nofun rfl rfl rfl ⟨rfl,rfl⟩ rfl,trivial⟩
   conv=>whnf
   refine⟨⟨⟨_,rfl,.eq rfl⟩,⟨_,rfl,.eq rfl⟩,⟨_,rfl,.eq rfl⟩,trivial⟩,rfl,?_⟩
   rintro i hi
   have hn6:(i:Int)*1048577<=6*1048577:=Int.mul_le_mul_of_nonneg_right (by omega) (by omega)
   have hn0:0<=(i:Int)*1048577:=Int.mul_nonneg (by omega) (by omega)
   have hRB:=XO hB (by omega) (r:=r) i
   have hRl:(oK r (aQ e.counts r.fr) i).length=e.counts.length:=by rw[qH,hl1]
   conv=>whnf
   refine⟨fun g1=>?_,fun g1=>?_⟩
   ·have hi':i<(aQ e.counts r.fr).length:=by
     have:(i:Int)<((oK r (aQ e.counts r.fr) i).length:Int):=of_decide_eq_true g1
     omega
    have hir:i<r.response.length:=by omega
    obtain⟨q3,q4⟩:0<=r.response.getD i 0/\r.response.getD i 0<e.counts.length:=by
     rw[show r.response.getD i 0=r.response[i] by simp[hir]]; exact rs2 _ (List.getElem_mem hir)
    have hR1:=hRB.get hn0 (r.response.getD i 0).toNat
    have hR2:=hB.get (by omega) i
    conv=>whnf
    repeat(refine VC.mk (by first|(first|(simp only[Rw.rng,qH]; omega)|(simp only[okI,aQ,Int.toNat_natCast] at *; omega))|(simp only[Rw.rng] at *; first|omega|(simp_all; done)|(simp_all; omega))) ?_; conv=>whnf)
    refine⟨i+1,[0,1,2,24,25,75],by omega,by omega,⟨⟨_,rfl,.eq rfl⟩,⟨_,rfl,.eq rfl⟩,trivial⟩,⟨⟨_,rfl,.eq rfl⟩,⟨_,rfl,.eq rfl⟩,⟨_,rfl,.eq rfl⟩,trivial⟩,okF rfl nofun rfl rfl rfl ⟨rfl,rfl⟩ rfl,okF rfl nofun rfl rfl rfl ⟨rfl,rfl⟩ rfl,okF rfl nofun rfl rfl rfl ⟨rfl,rfl⟩ rfl,okF rfl nofun rfl rfl rfl ⟨rfl,rfl⟩ rfl,⟨rfl,nofun,rfl,rfl,_,rfl,rfl,rfl,dQ.of_eq rfl⟩,okF rfl nofun rfl rfl rfl ?_ ?_,trivial⟩
    ·exact⟨rfl,rfl⟩
    ·rw[uK]; rfl
   have hi':i=(aQ e.counts r.fr).length:=by
    have: ¬ ((i:Int)<((oK r (aQ e.counts r.fr) i).length:Int)):=of_decide_eq_false g1
    omega
   subst hi'
   have hR1:=hRB.get hn0 r.to.toNat
   conv=>whnf
   repeat(refine VC.mk (by first|(simp only[Rw.rng,qH]; omega)|(simp only[okI,aQ,Int.toNat_natCast] at *; omega)) ?_; conv=>whnf)
   refine⟨fun h4=>?_,fun h4=>?_⟩
   ·replace h4:decide (r.write>=0)=true:=h4
    have hS:gY r e= .fJ [.dat (.elem ⟨r.write,gX (oK r (aQ e.counts r.fr) (aQ e.counts r.fr).length) r.to 1⟩),.bool true]:=by rw[gY,gJ,h1,h12,h5,h6,h4]; rfl
    conv=>whnf
    rw[hS]
    exact ak.wH rfl
   ·replace h4:decide (r.write>=0)=false:=h4
    have hS:gY r e= .fJ [.dat (.elem ⟨e.value,gX (oK r (aQ e.counts r.fr) (aQ e.counts r.fr).length) r.to 1⟩),.bool true]:=by rw[gY,gJ,h1,h12,h5,h6,h4]; rfl
    conv=>whnf
    rw[hS]
    exact ak.wH rfl
  ·replace h6:(r.kind==3)=false:=h6
   have hB:=hc.b.dec (by omega) r.fr
   have hB1:=hB.get (by omega) r.to.toNat
   have hgen:gJ r e=some ⟨bif decide (r.write>=0) then r.write else e.value,gX (aQ e.counts r.fr) r.to 1⟩:=by
    rw[gJ,h1,h5,h6]
    cases h12:(r.kind==1) with
    |false=>rfl
    |true=>rw[h12,Bool.true_and] at h2; rw[h2]; rfl
   conv=>whnf
   repeat(refine VC.mk (by first|(simp only[Rw.rng,List.length_set]; omega)|(simp only[okI,aQ,gX] at *; omega)) ?_; conv=>whnf)
   refine⟨fun h4=>?_,fun h4=>?_⟩
   ·replace h4:decide (r.write>=0)=true:=h4
    have hS:gY r e= .fJ [.dat (.elem ⟨r.write,gX (aQ e.counts r.fr) r.to 1⟩),.bool true]:=by rw[gY,hgen,h4]; rfl
    conv=>whnf
    rw[hS]
    exact ak.wH rfl
   ·replace h4:decide (r.write>=0)=false:=h4
    have hS:gY r e= .fJ [.dat (.elem ⟨e.value,gX (aQ e.counts r.fr) r.to 1⟩),.bool true]:=by rw[gY,hgen,h4]; rfl
    conv=>whnf
    rw[hS]
    exact ak.wH rfl
theorem bz{c:Bool}{a b:Int}(ha:c=true->a≠0)(h:(bif c then a else b)=0):c=false/\b=0:=by
 cases c with
 |true=>exact absurd h (ha rfl)
 |false=>exact⟨rfl,h⟩
theorem nz{a:Int}(h:(a !=0)=true):a≠0:=by simpa using h
theorem vI: ∀ {l:List Int},bJ l=0-> ∀ x∈l,x=0:=by
 intro l
 induction l with
 |nil=>intro _ x h; cases h
 |cons a r ih =>
  intro h x hx
  simp only[bJ] at h
  split at h
  ·rename_i h0
   rcases List.mem_cons.1 hx with rfl|hx
   ·exact h0
   ·exact ih h x hx
  ·rename_i h0; exact absurd h h0
structure MP(p:aN):Prop where
 pos:0<p.states.length
 states:p.states.length<=6
 values:p.values.length<=3
 adp:p.rules.length<=8
 init:jJ p.initial p.states.length=0
 start:p.initial≠[]
 rule: ∀ i,i<p.rules.length->iC p i=0
theorem rF{p:aN}(h:dw p=0):MP p:=by
 unfold dw at h
 obtain⟨_,h⟩:=bz (fun _=>by decide) h
 obtain⟨_,h⟩:=bz (fun _=>by decide) h
 obtain⟨h0,h⟩:=bz (fun _=>by decide) h
 obtain⟨h1,h⟩:=bz (fun _=>by decide) h
 obtain⟨_,h⟩:=bz nz h
 obtain⟨_,h⟩:=bz (fun _=>by decide) h
 obtain⟨_,h⟩:=bz (fun _=>by decide) h
 obtain⟨h2,h⟩:=bz nz h
 obtain⟨h3,h⟩:=bz nz h
 have h2':xR p=0:=by simpa using h2
 have h3':CO p=0:=by simpa using h3
 have g:=vI h2'
 simp only[vJ,Bool.or_eq_false_iff,decide_eq_false_iff_not] at h1
 refine⟨?_,by omega,by omega,by omega,g _ (by simp),?_,fun i hi=>?_⟩
 ·have:(p.states.length:Int)≠0:=by simpa using h0
  omega
 ·intro e
  have:=g (fG ((p.initial.length:Int)==0) 1) (by simp)
  rw[e] at this; exact absurd this (by decide)
 ·exact vI h3' _ (List.mem_map.2 ⟨i,by simpa using hi,rfl⟩)
theorem uy{x:Int}{n:Nat}(h:oO x n=false):0<=x/\x<n:=by
 simp only[oO,Bool.or_eq_false_iff,decide_eq_false_iff_not] at h; omega
theorem CP{x:Int}{n:Nat}(h:dH x n=0):0<=x/\x<n:=by
 refine uy ?_
 unfold dH fG at h
 cases hb:oO x n with
 |false=>rfl
 |true=>rw[hb] at h; exact absurd h (by decide)
theorem Ld{l:List Int}{n:Nat}(h:jJ l n=0):rE n l:=by
 unfold jJ at h
 obtain⟨h,_⟩:=bz (fun _=>by decide) h
 rw[List.any_eq_false] at h
 exact fun q hq=>uy (by simpa using h q hq)
theorem PX{n:Nat}: ∀ {l:List Int},pJ l n=0->rE n l:=by
 intro l
 induction l with
 |nil=>intro _ q h; cases h
 |cons x r ih =>
  intro h q hq
  simp only[pJ] at h
  split at h
  ·rename_i h0
   rcases List.mem_cons.1 hq with rfl|hq
   ·exact CP h0
   ·exact ih h q hq
  ·rename_i h0; exact absurd h h0
theorem KE{k:Int}(h:sU k 1=true):k=1\/k=2\/k=3:=by
 unfold sU at h
 cases h1:(k==1) with
 |true=>exact .inl (beq_iff_eq.1 h1)
 |false =>
  cases h2:(k==2) with
  |true=>exact .inr (.inl (beq_iff_eq.1 h2))
  |false =>
   cases h3:(k==3) with
   |true=>exact .inr (.inr (beq_iff_eq.1 h3))
   |false=>rw[h1,h2,h3] at h; cases hb:(k==4||k==5)<;>rw[hb] at h<;>cases h
structure ae0(n:Nat)(p:aN)(r:Rule):Prop where
 place:zN n r
 kind:r.kind=1\/r.kind=2\/r.kind=3
 ag4:rE n r.all
 ex1:r.kind≠1->r.ex=[]/\r.all=[]
 rd:oO r.read p.values.length=false\/r.read= -1
 wr:oO r.write p.values.length=false\/r.write= -1
theorem rW{p:aN}{v:Int}(h:jV p v=0):oO v p.values.length=false\/v= -1:=by
 unfold jV fG at h
 have h': ¬ (v< -1\/v>=(p.values.length:Int)):=by
  intro q
  have:(decide (v< -1)||decide (v>=(p.values.length:Int)))=true:=by simpa using q
  rw[this] at h; exact absurd h (by decide)
 by_cases e:v= -1
 ·exact .inr e
 ·left
  simp only[oO,Bool.or_eq_false_iff,decide_eq_false_iff_not]; omega
theorem acE{p:aN}{i:Nat}(hv:MP p)(ht:p.topology=1)(hi:i<p.rules.length):ae0 p.states.length p (p.rules.getD i default):=by
 have h:=hv.rule i hi
 have hpos:=hv.pos
 simp only[iC,oV] at h
 generalize (p.rules.getD i default)=r at h ⊢
 obtain⟨_,h⟩:=bz (fun _=>by decide) h
 obtain⟨hb,h⟩:=bz (fun _=>by decide) h
 obtain⟨he,h⟩:=bz nz h
 rw[GY,Bool.or_eq_false_iff] at he
 rw[ht,Bool.or_eq_false_iff] at hb
 have hk:=KE (show sU r.kind 1=true by simpa using hb.1)
 have hu:kM r 1=false:=by rw[vw (by omega)]; exact hb.2
 have hun:=Le hu
 have hpf:r.kind≠2->r.kind≠5->r.gI=0/\r.AO=0:=by
  intro k1 k2
  simp only[kM,MQ,Bool.or_eq_false_iff] at hu
  have h3:=hu.2.2.1
  simp only[beq_eq_false_iff_ne.2 k1,beq_eq_false_iff_ne.2 k2,Bool.not_false,Bool.true_and,Bool.or_eq_false_iff] at h3
  exact⟨Si h3.1,Si h3.2⟩
 have h00:(0:Int)<=0/\(0:Int)<p.states.length:=⟨by omega,by omega⟩
 have pn:rE p.states.length []:=fun q hq=>by cases hq
 rcases hk with e|e|e
 ·rw[e] at h
  have g:=vI h
  have⟨a,b⟩:=hpf (by omega) (by omega)
  exact⟨⟨uy he.1,uy he.2,by rw[a]; exact h00,by rw[b]; exact h00,fun q=>by omega,Ld (g (jJ r.ex p.states.length) (by simp))⟩,.inl e,Ld (g (jJ r.all p.states.length) (by simp)),fun q=>absurd e q,rW (g (jV p r.read) (by simp)),rW (g (jV p r.write) (by simp))⟩
 ·rw[e] at h
  have g:=vI h
  obtain⟨_,u1,u2,_⟩:=hun.1 (by omega)
  exact⟨⟨uy he.1,uy he.2,CP (g (dH r.gI p.states.length) (by simp)),CP (g (dH r.AO p.states.length) (by simp)),fun q=>by omega,by rw[u1]; exact pn⟩,.inr (.inl e),by rw[u2]; exact pn,fun _=>⟨u1,u2⟩,rW (g (jV p r.read) (by simp)),rW (g (jV p r.write) (by simp))⟩
 ·rw[e] at h
  have g:=vI h
  have⟨a,b⟩:=hpf (by omega) (by omega)
  obtain⟨_,u1,u2,_⟩:=hun.1 (by omega)
  have hr:=g (D6 r.response p.states.length) (by simp)
  unfold D6 at hr
  obtain⟨r1,r2⟩:=bz (fun _=>by decide) hr
  exact⟨⟨uy he.1,uy he.2,by rw[a]; exact h00,by rw[b]; exact h00,fun _=>⟨by have q9:(r.response.length:Int)=p.states.length:=(by simpa using r1); omega,PX r2⟩,by rw[u1]; exact pn⟩,.inr (.inr e),by rw[u2]; exact pn,fun _=>⟨u1,u2⟩,rW (g (jV p r.read) (by simp)),rW (g (jV p r.write) (by simp))⟩
theorem KF{p:aN}(h:rX p=true):p.topology=1:=by
 simp only[rX,Bool.and_eq_true,beq_iff_eq] at h; exact h.1.1.1
structure ag5(p:aN)(e:Elem):Prop where
 valid:MP p
 plain:rX p=true
 len:e.counts.length=p.states.length
 nums:F7 e.counts
 val:0<=e.value/\e.value<max 1 (p.values.length:Int)
theorem mO{p:aN}(h:MN p=0):dw p=0/\rX p=true:=by
 unfold MN at h
 obtain⟨h1,h⟩:=bz nz h
 obtain⟨h2,_⟩:=bz (fun _=>by decide) h
 refine⟨by simpa using h1,?_⟩
 simp only[nV] at h2
 cases hp:rX p with
 |true=>rfl
 |false=>rw[hp] at h2; simp at h2
theorem aaT{x:Int}:EZ x=true↔0<=x/\x<=1048576:=by simp[EZ]
theorem iV{α:Type}{c:Bool}{a b:Option α}{x:α}(h:(bif c then a else b)=some x):a=some x\/b=some x:=by
 cases c with
 |true=>exact .inl h
 |false=>exact .inr h
theorem EY{c:List Int}{i d:Int}:(gX c i d).length=c.length:=by simp[gX]
theorem nX{c:List Int}{i:Int}:(aQ c i).length=c.length:=by simp[aQ]
theorem xM{r:Rule}{e x:Elem}(h:gJ r e=some x):x.counts.length=e.counts.length:=by
 simp only[gJ] at h
 have out: ∀ {c:List Int} {v:Int},c.length=e.counts.length->some (⟨v,gX c r.to 1⟩:Elem)=some x->x.counts.length=e.counts.length:=by
  intro c v hc h; cases h; rw[EY,hc]
 rcases iV h with h|h
 ·cases h
 rcases iV h with h|h
 ·rcases iV h with h|h
  ·cases h
  ·exact out nX h
 rcases iV h with h|h
 ·rcases iV h with h|h
  ·cases h
  ·exact out (by rw[EY,nX,nX]) h
 rcases iV h with h|h
 ·exact out (by rw[qH,nX]) h
 ·exact out nX h
end Go.Proofs.YtkomllaebngbfaaGreatDoor
namespace Go.Proofs.YtkomllaebngbfaaGreatDoor
open Go.Ab Go.Proofs
set_option maxRecDepth 100000
theorem ah.insert{h:Hz}{i n:Nat}{l:List Elem}{e:Elem}{K:V->Hz->Prop}{KW:Nat->V->Hz->Prop}(hi:h.get i=some (eP l))(hn:h.get n=none)(hl:l.length<2^30)(hs:eH l)(he:e.counts.length<2^30)
  (h1:rQ l e=true->K (.own i) ((i,some (eP l))::h)) (h2:rQ l e=false->K (.own n) ((n,some (eP (nD l e)))::(i,none)::h)):ah Tryz.prog false none 125 [.own i,.dat (.elem e)] h n K KW:=by
 refine ah.XT (ts:=[.own 0,.dat (.elem e)]) (S.pK l e 1 (by decide) hl hs he) ?_ rfl rfl rfl hi hn ?_
 ·show [T.own i,T.ren _ (dZ e)]=[T.own i,dZ e]
  rfl
 ·rintro t hp (⟨a,rfl,rfl⟩|⟨a,rfl,rfl⟩)
  ·exact .inl ⟨.own i,eP l,rfl,rfl,rfl,h1 a⟩
  ·exact .inr ⟨.own n,eP (nD l e),rfl,rfl,rfl,h2 a⟩
theorem ak.acH{h:Hz}{k:Nat}{c:Int}:ak (.fJ [.row 3 false (.elems []),.int c]) (.fJ [.row k true .nil,.int c]) h:=⟨by
 show T.sub (fun _=>True) h.ay (.fJ [.sl 3 false [],.int c]) (.fJ [.sl k true [],.int c])
 simp[T.sub,T.dJ]⟩
structure jd(q:Prop'):Prop where
 start:q.start.length<2^30
 bad:q.bad.length<2^30
 adjacent:q.adjacent.length<2^30
 goal:q.goal.length<2^30
 cnt: ∀ i,(q.bad.getD i default).states.length<2^30
def xU(c:Cnt):Bool:=((c.states.length:Int)==0||decide (c.least<1))||decide (c.least>3)
def Nq(n:Int)(c:Cnt):Int:=bJ [jJ c.states n,fG (xU c) 1]
def wJ(l:List Cnt)(n:Int):Int:=bJ (l.map (Nq n))
def GL(p:aN)(l:List Int):Int:=bif (l.length:Int)==0 then 0 else bif p.topology==1 then 6 else bif (l.length:Int) !=2 then 1 else bJ [dH (l.getD 0 0) p.states.length,dH (l.getD 1 0) p.states.length]
def uz(q:Prop'):Bool:=((q.kind==1)&&decide ((q.goal.length:Int)>0))||(!(q.kind==1)&&(decide ((q.bad.length:Int)>0)||decide ((q.adjacent.length:Int)>0)))
def jI(p:aN)(q:Prop'):Int :=
 let n:Int:=p.states.length
 bif dw p !=0 then dw p else bif !(validName q.name) then 2 else bif !(q.kind==1)&&q.kind !=2 then 1 else bif uz q then 1 else
 bif jJ q.start n !=0 then jJ q.start n else bif q.start.any (fun x=> !(yR p.initial x)) then 5 else
 bif !(q.kind==1) then bJ [jJ q.goal n,fG ((q.goal.length:Int)==0) 1] else
 bJ [fG (((q.bad.length:Int)==0)&&((q.adjacent.length:Int)==0)) 1,fG (decide ((q.bad.length:Int)>3)) 4,wJ q.bad n,GL p q.adjacent]
theorem S.jD(l:List Cnt)(n:Int)(f:Bool)(hl:l.length<2^30)(hs: ∀ i,(l.getD i default).states.length<2^30):aj Tryz.prog 153 [.row 3 f (.cnts l),.int n] (.int (wJ l n)):=by
 refine aj.of Bd.jD (by simp) rfl rfl ?_
 conv=>whnf
 refine aI.same [1,8,9] (fun i:Nat=>[(10,.int i)]) (fun i=>i<=l.length/\wJ l n=bJ ((l.drop i).map (Nq n))) (fun i=>l.length-i) 0 rfl (by decide) rfl (fun _=>rfl) ⟨by omega,by simp[wJ]⟩ ⟨⟨_,rfl,rfl⟩,trivial⟩ ?_
 conv=>whnf
 refine⟨rfl,?_⟩
 rintro i ⟨hi,hall⟩
 conv=>whnf
 refine⟨fun h3=>?_,fun h3=>?_⟩
 ·have hi':i<l.length:=by simpa using h3
  rw[dN default hi',List.map_cons] at hall
  simp only[bJ] at hall
  have hc:=hs i
  conv=>whnf
  refine .mk (by simp only[Rw.rng] at *; omega) ?_
  conv=>whnf
  refine ah.pure (S.dK (l.getD i default).states n false (by omega)) rfl ?_
  conv=>whnf
  repeat(refine VC.mk (by first|exact id|(intro h; rw[h]; rfl)) ?_; conv=>whnf)
  refine ah.pure (S.bU (xU (l.getD i default)) 1) rfl ?_
  conv=>whnf
  refine ah.pure (S.bM [jJ (l.getD i default).states n,fG (xU (l.getD i default)) 1] true (show 2<2^40 by decide)) rfl ?_
  conv=>whnf
  refine⟨fun h4=>?_,fun h4=>?_⟩
  ·conv=>whnf
   refine ak.int ?_
   have h4':Nq n (l.getD i default)≠0:=nz h4
   rw[hall,if_neg h4']; rfl
  ·conv=>whnf
   refine .mk (by simp only[okI] at *; omega) ?_
   conv=>whnf
   have h4':Nq n (l.getD i default)=0:=IJ h4
   rw[if_pos h4'] at hall
   refine⟨i+1,⟨by omega,hall⟩,by omega,⟨⟨_,rfl,rfl⟩,trivial⟩,?_,rfl⟩
   repeat' (first|exact trivial|exact⟨_,rfl,rfl⟩|constructor)
 ·have hi':l.length<=i:=by simpa using h3
  rw[List.drop_eq_nil_of_le hi'] at hall
  conv=>whnf
  exact ak.int (by rw[hall]; rfl)
theorem S.iH(p:aN)(l:List Int)(f:Bool)(_hl:l.length<2^30):aj Tryz.prog 154 [.dat (.jA p),.row 0 f (.ints l)] (.int (GL p l)):=by
 refine aj.of Bd.iH (by simp) rfl rfl ?_
 conv=>whnf
 refine⟨fun h1=>?_,fun h1=>?_⟩
 ·conv=>whnf
  exact ak.int (by rw[GL,h1]; rfl)
 conv=>whnf
 refine⟨fun h2=>?_,fun h2=>?_⟩
 ·conv=>whnf
  exact ak.int (by rw[GL,h1,h2]; rfl)
 conv=>whnf
 refine⟨fun h3=>?_,fun h3=>?_⟩
 ·conv=>whnf
  exact ak.int (by rw[GL,h1,h2,h3]; rfl)
 have h4:l.length=2:=by
  have:(l.length:Int)=2:=by simpa using h3
  omega
 conv=>whnf
 repeat(refine VC.mk (by simp only[Rw.rng] at *; omega) ?_; conv=>whnf)
 refine ah.pure (S.bV (l.getD 0 0) p.states.length) rfl ?_
 conv=>whnf
 refine ah.pure (S.bV (l.getD 1 0) p.states.length) rfl ?_
 conv=>whnf
 refine ah.pure (S.bM [dH (l.getD 0 0) p.states.length,dH (l.getD 1 0) p.states.length] true (show 2<2^40 by decide)) rfl ?_
 conv=>whnf
 exact ak.int (by rw[GL,h1,h2,h3]; rfl)
theorem S.dA(p:aN)(q:Prop')(hp:dP p)(hq:jd q):aj Tryz.prog 101 [.dat (.jA p),.dat (.prop q)] (.int (jI p q)):=by
 have g1:=hp.states; have g5:=hp.initial
 have q1:=hq.start; have q2:=hq.bad; have q3:=hq.adjacent; have q4:=hq.goal
 refine aj.of Bd.dA (by simp) rfl rfl ?_
 conv=>whnf
 refine ah.pure (S.fQ p hp) rfl ?_
 conv=>whnf
 refine⟨fun h1=>?_,fun h1=>?_⟩
 ·conv=>whnf
  exact ak.int (by rw[jI,h1]; rfl)
 conv=>whnf
 refine ah.pure (S.eu q.name) rfl ?_
 conv=>whnf
 refine⟨fun h2=>?_,fun h2=>?_⟩
 ·conv=>whnf
  exact ak.int (by rw[jI,h1,h2]; rfl)
 conv=>whnf
 repeat(refine VC.mk id ?_; conv=>whnf)
 refine⟨fun h3=>?_,fun h3=>?_⟩
 ·conv=>whnf
  exact ak.int (by rw[jI,h1,h2,h3]; rfl)
 conv=>whnf
 repeat(refine VC.mk id ?_; conv=>whnf)
 refine⟨fun h4=>?_,fun h4=>?_⟩
 ·conv=>whnf
  refine Fork.mk (fun _=>?_) (fun q=>absurd (q.symm.trans (h4)) Bool.false_ne_true)
  conv=>whnf
  exact ak.int (by rw[jI,h1,h2,h3,show uz q=true by rw[uz]; erw [h4]; rfl]; rfl)
 conv=>whnf
 repeat(refine VC.mk (by first|exact id|(intro h; simp_all; done)) ?_; conv=>whnf)
 refine⟨fun h5=>?_,fun h5=>?_⟩
 ·conv=>whnf
  exact ak.int (by rw[jI,h1,h2,h3,show uz q=true by rw[uz]; erw [h5]; simp]; rfl)
 have h45:uz q=false:=by rw[uz]; erw [h4,h5]; rfl
 conv=>whnf
 refine ah.pure (S.dK q.start p.states.length false (by omega)) rfl ?_
 conv=>whnf
 refine⟨fun h6=>?_,fun h6=>?_⟩
 ·conv=>whnf
  exact ak.int (by rw[jI,h1,h2,h3,h45,h6]; rfl)
 conv=>whnf
 refine aI.same [2,3,6,7,65,66] (fun i:Nat=>[(67,.int i)]) (fun i=>i<=q.start.length/\(q.start.take i).any (fun x=> !(yR p.initial x))=false) (fun i=>q.start.length-i) 0 rfl (by decide) rfl (fun _=>rfl) ⟨by omega,by simp⟩ ⟨⟨_,rfl,rfl⟩,trivial⟩ ?_
 conv=>whnf
 refine⟨rfl,?_⟩
 rintro i ⟨hi,hall⟩
 conv=>whnf
 refine⟨fun h7=>?_,fun h7=>?_⟩
 ·have hi':i<q.start.length:=by simpa using h7
  conv=>whnf
  refine .mk (by simp only[Rw.rng] at *; omega) ?_
  conv=>whnf
  refine ah.pure (S.slices_Contains_int p.initial (q.start.getD i 0) false (by omega)) rfl ?_
  conv=>whnf
  refine⟨fun h8=>?_,fun h8=>?_⟩
  ·conv=>whnf
   exact ak.int (by rw[jI,h1,h2,h3,h45,h6,iF (d:=0) hi' h8]; rfl)
  ·conv=>whnf
   refine .mk (by simp only[okI] at *; omega) ?_
   conv=>whnf
   refine⟨i+1,⟨by omega,?_⟩,by omega,⟨⟨_,rfl,rfl⟩,trivial⟩,?_,rfl⟩
   ·rw[jS (d:=0) hi' hall]; exact h8
   ·repeat' (first|exact trivial|exact⟨_,rfl,rfl⟩|constructor)
 have hi':q.start.length<=i:=by simpa using h7
 rw[List.take_of_length_le hi'] at hall
 conv=>whnf
 refine⟨fun h8=>?_,fun h8=>?_⟩
 ·conv=>whnf
  refine ah.pure (S.dK q.goal p.states.length false (by omega)) rfl ?_
  conv=>whnf
  refine ah.pure (S.bU ((q.goal.length:Int)==0) 1) rfl ?_
  conv=>whnf
  refine ah.pure (S.bM [jJ q.goal p.states.length,fG ((q.goal.length:Int)==0) 1] true (show 2<2^40 by decide)) rfl ?_
  conv=>whnf
  exact ak.int (by rw[jI,h1,h2,h3,h45,h6,hall,h8]; rfl)
 conv=>whnf
 repeat(refine VC.mk id ?_; conv=>whnf)
 refine ah.pure (S.bU (((q.bad.length:Int)==0)&&((q.adjacent.length:Int)==0)) 1) rfl ?_
 conv=>whnf
 refine ah.pure (S.bU (decide ((q.bad.length:Int)>3)) 4) rfl ?_
 conv=>whnf
 refine ah.pure (S.jD q.bad p.states.length false q2 hq.cnt) rfl ?_
 conv=>whnf
 refine ah.pure (S.iH p q.adjacent false q3) rfl ?_
 conv=>whnf
 refine ah.pure (S.bM [fG (((q.bad.length:Int)==0)&&((q.adjacent.length:Int)==0)) 1,fG (decide ((q.bad.length:Int)>3)) 4,wJ q.bad p.states.length,GL p q.adjacent] true (show 4<2^40 by decide)) rfl ?_
 conv=>whnf
 exact ak.int (by rw[jI,h1,h2,h3,h45,h6,hall,h8]; rfl)
theorem S.yU(l:List Int)(s:Int)(f:Bool)(hl:l.length<2^40):aj Tryz.prog 155 [.row 0 f (.ints l),.int s] (.bool (yR l s)):=by
 refine aj.of Bd.yU (by simp) rfl rfl ?_
 conv=>whnf
 refine aI.same [0,1] (fun i:Nat=>[(5,.int i)]) (fun i=>i<=l.length/\(l.take i).any (fun x=>s==x)=false) (fun i=>l.length-i) 0 rfl (by decide) rfl (fun _=>rfl) ⟨by omega,by simp⟩ ⟨⟨_,rfl,rfl⟩,trivial⟩ ?_
 conv=>whnf
 refine⟨rfl,?_⟩
 rintro i ⟨hi,hall⟩
 conv=>whnf
 refine⟨fun h3=>?_,fun h3=>?_⟩
 ·have hi':i<l.length:=by simpa using h3
  conv=>whnf
  refine .mk (by simp only[Rw.rng] at *; omega) ?_
  conv=>whnf
  refine⟨fun h4=>?_,fun h4=>?_⟩
  ·have h4':(s==l.getD i 0)=true:=by rw[show(s==l.getD i 0)=(l.getD i 0==s) from Bool.beq_comm]; exact h4
   conv=>whnf
   exact ak.bool (iF (d:=0) hi' h4')
  ·have h4':(s==l.getD i 0)=false:=by rw[show(s==l.getD i 0)=(l.getD i 0==s) from Bool.beq_comm]; exact h4
   conv=>whnf
   refine .mk (by simp only[okI] at *; omega) ?_
   conv=>whnf
   refine⟨i+1,⟨by omega,?_⟩,by omega,⟨⟨_,rfl,rfl⟩,trivial⟩,?_,rfl⟩
   ·rw[jS (d:=0) hi' hall]; exact h4'
   ·repeat' (first|exact trivial|exact⟨_,rfl,rfl⟩|constructor)
 ·have hi':l.length<=i:=by simpa using h3
  rw[List.take_of_length_le hi'] at hall
  conv=>whnf
  exact ak.bool hall
theorem aa0{p:aN}{l:List Int}(h1:(decide ((l.length:Int)>0)&&(p.topology==1))=false)(h2:((l.length:Int) !=0&&(l.length:Int) !=2)=false):GL p l=bif l.any (fun x=>oO x p.states.length) then 5 else 0:=by
 unfold GL
 rcases l with _|⟨a,_|⟨b,_|⟨c,r⟩⟩⟩
 ·rfl
 ·simp at h2
 ·have ht:(p.topology==1)=false:=by simpa using h1
  rw[ht]
  simp only[List.length_cons,List.length_nil,List.getD_cons_zero,List.getD_cons_succ,List.any_cons,List.any_nil,Bool.or_false,dH]
  cases oO a p.states.length<;>cases oO b p.states.length<;>rfl
 ·simp at h2; omega
theorem Sj{c:Cnt}:xU c=((c.states.length:Int)==0|| !(iI c.least 1 3)):=by
 rw[xU,nZ,Bool.or_assoc]
theorem S.dY(p:aN)(q:Prop')(hp:dP p)(hq:jd q):aj Tryz.prog 102 [.dat (.jA p),.dat (.prop q)] (.int (jI p q)):=by
 have g1:=hp.states; have g5:=hp.initial
 have q1:=hq.start; have q2:=hq.bad; have q3:=hq.adjacent; have q4:=hq.goal
 refine aj.of Bd.dY (by simp) rfl rfl ?_
 conv=>whnf
 refine ah.pure (S.kR p hp) rfl ?_
 conv=>whnf
 refine⟨fun h1=>?_,fun h1=>?_⟩
 ·conv=>whnf
  exact ak.int (by rw[jI,h1]; rfl)
 conv=>whnf
 refine ah.pure (S.iE q.name) rfl ?_
 conv=>whnf
 refine⟨fun h2=>?_,fun h2=>?_⟩
 ·conv=>whnf
  exact ak.int (by rw[jI,h1,h2]; rfl)
 conv=>whnf
 repeat(refine VC.mk id ?_; conv=>whnf)
 refine⟨fun h3=>?_,fun h3=>?_⟩
 ·replace h3:(!(q.kind==1)&&q.kind !=2)=true:=h3
  conv=>whnf
  exact ak.int (by rw[jI,h1,h2,h3]; rfl)
 replace h3:(!(q.kind==1)&&q.kind !=2)=false:=h3
 have k2:(q.kind==2)= !(q.kind==1):=by
  cases e:(q.kind==1) with
  |true=>rw[beq_iff_eq.1 e]; rfl
  |false=>rw[e] at h3; simpa using h3
 conv=>whnf
 repeat(refine VC.mk (by first|exact id|(intro h; rw[h]; rfl)|(intro h; simp_all; done)) ?_; conv=>whnf)
 refine⟨fun h4=>?_,fun h4=>?_⟩
 ·rw[k2] at h4
  conv=>whnf
  exact ak.int (by rw[jI,h1,h2,h3,show uz q=true from h4]; rfl)
 rw[k2] at h4
 replace h4:uz q=false:=h4
 conv=>whnf
 refine ah.pure (S.iJ q.start p.states.length false (by omega) (by omega)) rfl ?_
 conv=>whnf
 refine⟨fun h6=>?_,fun h6=>?_⟩
 ·conv=>whnf
  exact ak.int (by rw[jI,h1,h2,h3,h4,h6]; rfl)
 conv=>whnf
 refine aI.same [2,3,6] (fun i:Nat=>[(8,.int i)]) (fun i=>i<=q.start.length/\(q.start.take i).any (fun x=> !(yR p.initial x))=false) (fun i=>q.start.length-i) 0 rfl (by decide) rfl (fun _=>rfl) ⟨by omega,by simp⟩ ⟨⟨_,rfl,rfl⟩,trivial⟩ ?_
 conv=>whnf
 refine⟨rfl,?_⟩
 rintro i ⟨hi,hall⟩
 conv=>whnf
 refine⟨fun h7=>?_,fun h7=>?_⟩
 ·have hi':i<q.start.length:=by simpa using h7
  conv=>whnf
  refine .mk (by simp only[Rw.rng] at *; omega) ?_
  conv=>whnf
  refine ah.pure (S.yU p.initial (q.start.getD i 0) false (by omega)) rfl ?_
  conv=>whnf
  refine⟨fun h8=>?_,fun h8=>?_⟩
  ·conv=>whnf
   exact ak.int (by rw[jI,h1,h2,h3,h4,h6,iF (d:=0) hi' h8]; rfl)
  ·conv=>whnf
   refine .mk (by simp only[okI] at *; omega) ?_
   conv=>whnf
   refine⟨i+1,⟨by omega,?_⟩,by omega,⟨⟨_,rfl,rfl⟩,trivial⟩,?_,rfl⟩
   ·rw[jS (d:=0) hi' hall]; exact h8
   ·repeat' (first|exact trivial|exact⟨_,rfl,rfl⟩|constructor)
 have hi':q.start.length<=i:=by simpa using h7
 rw[List.take_of_length_le hi'] at hall
 clear h7 hi'
 conv=>whnf
 refine⟨fun h8=>?_,fun h8=>?_⟩
 ·have h8':(!(q.kind==1))=true:=by rw[<- k2]; exact h8
  have hS:jI p q=bJ [jJ q.goal p.states.length,fG ((q.goal.length:Int)==0) 1]:=by rw[jI,h1,h2,h3,h4,h6,hall,h8']; rfl
  rw[hS]
  conv=>whnf
  refine ah.pure (S.iJ q.goal p.states.length false (by omega) (by omega)) rfl ?_
  conv=>whnf
  refine⟨fun h9=>?_,fun h9=>?_⟩
  ·conv=>whnf
   exact ak.int (fN (nz h9))
  rw[show jJ q.goal p.states.length=0 from IJ h9,f0]
  conv=>whnf
  refine⟨fun h10=>?_,fun h10=>?_⟩
  ·conv=>whnf
   exact ak.int (by rw[h10]; rfl)
  ·conv=>whnf
   exact ak.int (by rw[h10]; rfl)
 have h8':(!(q.kind==1))=false:=by rw[<- k2]; exact h8
 have hS:jI p q=bJ [fG (((q.bad.length:Int)==0)&&((q.adjacent.length:Int)==0)) 1,fG (decide ((q.bad.length:Int)>3)) 4,wJ q.bad p.states.length,GL p q.adjacent]:=by rw[jI,h1,h2,h3,h4,h6,hall,h8']; rfl
 rw[hS]
 conv=>whnf
 repeat(refine VC.mk id ?_; conv=>whnf)
 refine⟨fun h9=>?_,fun h9=>?_⟩
 ·conv=>whnf
  exact ak.int (by rw[h9]; rfl)
 rw[h9,Ux]
 conv=>whnf
 refine⟨fun h10=>?_,fun h10=>?_⟩
 ·conv=>whnf
  exact ak.int (by rw[show decide ((q.bad.length:Int)>3)=true from h10]; rfl)
 rw[show decide ((q.bad.length:Int)>3)=false from h10,Ux]
 conv=>whnf
 refine aI.same [2,3,6] (fun i:Nat=>[(10,.int i)]) (fun i=>i<=q.bad.length/\wJ q.bad p.states.length=bJ ((q.bad.drop i).map (Nq p.states.length))) (fun i=>q.bad.length-i) 0 rfl (by decide) rfl (fun _=>rfl) ⟨by omega,by simp[wJ]⟩ ⟨⟨_,rfl,rfl⟩,trivial⟩ ?_
 conv=>whnf
 refine⟨rfl,?_⟩
 rintro j ⟨hj,hcnt⟩
 conv=>whnf
 refine⟨fun h11=>?_,fun h11=>?_⟩
 ·have hj':j<q.bad.length:=by simpa using h11
  rw[dN default hj',List.map_cons] at hcnt
  simp only[bJ] at hcnt
  have hc:=hq.cnt j
  conv=>whnf
  refine .mk (by simp only[Rw.rng] at *; omega) ?_
  conv=>whnf
  refine ah.pure (S.iJ (q.bad.getD j default).states p.states.length false (by omega) (by omega)) rfl ?_
  conv=>whnf
  refine⟨fun h12=>?_,fun h12=>?_⟩
  ·conv=>whnf
   have e1:Nq p.states.length (q.bad.getD j default)=jJ (q.bad.getD j default).states p.states.length:=fN (nz h12)
   rw[e1,if_neg (nz h12)] at hcnt
   exact ak.int (by rw[hcnt,fN (nz h12)])
  have Ym:jJ (q.bad.getD j default).states p.states.length=0:=IJ h12
  have e1:Nq p.states.length (q.bad.getD j default)=bJ [fG (xU (q.bad.getD j default)) 1]:=by rw[Nq,Ym,f0]
  rw[e1,Sj] at hcnt
  conv=>whnf
  repeat(refine VC.mk (by first|exact id|(intro h; (repeat' apply And.intro)<;>first|exact h|omega|(simp only[Rw.pq]; omega)|(simp only[Rw.rng]; omega))|(simp only[Rw.rng] at *; omega)) ?_; conv=>whnf)
  refine ah.gG (fun _=>S.aU (q.bad.getD j default).least 1 3) rfl ?_
  conv=>whnf
  repeat(refine VC.mk (by first|exact id|(intro h; rw[h]; rfl)) ?_; conv=>whnf)
  refine⟨fun h13=>?_,fun h13=>?_⟩
  ·replace h13:(((q.bad.getD j default).states.length:Int)==0|| !(iI (q.bad.getD j default).least 1 3))=true:=h13
   rw[h13] at hcnt
   conv=>whnf
   exact ak.int (by rw[hcnt]; rfl)
  ·replace h13:(((q.bad.getD j default).states.length:Int)==0|| !(iI (q.bad.getD j default).least 1 3))=false:=h13
   rw[h13] at hcnt
   conv=>whnf
   refine .mk (by simp only[okI] at *; omega) ?_
   conv=>whnf
   refine⟨j+1,⟨by omega,hcnt⟩,by omega,⟨⟨_,rfl,rfl⟩,trivial⟩,?_,rfl⟩
   repeat' (first|exact trivial|exact⟨_,rfl,rfl⟩|constructor)
 have hj':q.bad.length<=j:=by simpa using h11
 rw[List.drop_eq_nil_of_le hj'] at hcnt
 rw[hcnt,show bJ (List.map (Nq p.states.length) [])=0 from rfl,f0]
 conv=>whnf
 repeat(refine VC.mk id ?_; conv=>whnf)
 refine⟨fun h12=>?_,fun h12=>?_⟩
 ·replace h12:(decide ((q.adjacent.length:Int)>0)&&(p.topology==1))=true:=h12
  conv=>whnf
  rw[Bool.and_eq_true] at h12
  have:((q.adjacent.length:Int)==0)=false:=beq_eq_false_iff_ne.2 (by have:=of_decide_eq_true h12.1; omega)
  exact ak.int (by rw[GL,this,h12.2]; rfl)
 replace h12:(decide ((q.adjacent.length:Int)>0)&&(p.topology==1))=false:=h12
 conv=>whnf
 repeat(refine VC.mk id ?_; conv=>whnf)
 refine⟨fun h13=>?_,fun h13=>?_⟩
 ·replace h13:((q.adjacent.length:Int) !=0&&(q.adjacent.length:Int) !=2)=true:=h13
  conv=>whnf
  rw[Bool.and_eq_true] at h13
  have e0:((q.adjacent.length:Int)==0)=false:=by simpa using h13.1
  have e1:(p.topology==1)=false:=by
   rw[Bool.and_eq_false_iff] at h12
   rcases h12 with h12|h12
   ·have:=of_decide_eq_false h12
    have:(q.adjacent.length:Int)≠0:=by simpa using e0
    omega
   ·exact h12
  exact ak.int (by rw[GL,e0,e1,h13.2]; rfl)
 replace h13:((q.adjacent.length:Int) !=0&&(q.adjacent.length:Int) !=2)=false:=h13
 rw[aa0 h12 h13]
 conv=>whnf
 refine aI.same [2,3,6] (fun i:Nat=>[(12,.int i)]) (fun i=>i<=q.adjacent.length/\(q.adjacent.take i).any (fun x=>oO x p.states.length)=false) (fun i=>q.adjacent.length-i) 0 rfl (by decide) rfl (fun _=>rfl) ⟨by omega,by simp⟩ ⟨⟨_,rfl,rfl⟩,trivial⟩ ?_
 conv=>whnf
 refine⟨rfl,?_⟩
 rintro k ⟨hk,ads⟩
 conv=>whnf
 refine⟨fun h14=>?_,fun h14=>?_⟩
 ·have hk':k<q.adjacent.length:=by simpa using h14
  conv=>whnf
  repeat(refine VC.mk (by simp only[okI,Rw.rng] at *; omega) ?_; conv=>whnf)
  refine ah.pure (S.aU (q.adjacent.getD k 0) 0 (p.states.length-1)) rfl ?_
  conv=>whnf
  refine⟨fun h15=>?_,fun h15=>?_⟩
  ·replace h15:(!(iI (q.adjacent.getD k 0) 0 (p.states.length-1)))=true:=h15
   rw[vK] at h15
   conv=>whnf
   exact ak.int (by rw[iF (d:=0) hk' h15]; rfl)
  ·replace h15:(!(iI (q.adjacent.getD k 0) 0 (p.states.length-1)))=false:=h15
   rw[vK] at h15
   conv=>whnf
   refine .mk (by simp only[okI] at *; omega) ?_
   conv=>whnf
   refine⟨k+1,⟨by omega,?_⟩,by omega,⟨⟨_,rfl,rfl⟩,trivial⟩,?_,rfl⟩
   ·rw[jS (d:=0) hk' ads]; exact h15
   ·repeat' (first|exact trivial|exact⟨_,rfl,rfl⟩|constructor)
 have hk':q.adjacent.length<=k:=by simpa using h14
 rw[List.take_of_length_le hk'] at ads
 conv=>whnf
 exact ak.int (by rw[ads]; rfl)
theorem ak.ae1{h:Hz}{j:Nat}{l:List Int}(q:h.get j=some (xJ l)):ak (.row 0 false (.ints l)) (.own j) h:=⟨Ih trivial q⟩
theorem ak.agj{h:Hz}{k k':Nat}{r:Rw}(e:r.len=0):ak (.row k false r) (.row k' true .nil) h:=⟨by
 have:r.bn=[]:=List.eq_nil_of_length_eq_zero (by rw[Rw.dR]; exact e)
 show T.sub (fun _=>True) h.ay (.sl k false r.bn) (.sl k' true [])
 rw[this]; simp[T.sub]⟩
theorem S.Lh(l:List Int)(f:Bool)(hl:l.length<2^30):aj Tryz.prog 123 [.row 0 f (.ints l)] (.row 0 false (.ints l)):=by
 refine aj.of Bd.fV (by simp) rfl rfl ?_
 conv=>whnf
 refine XM.mk (fun hz=>?_) ?_
 ·conv=>whnf
  refine Fork.mk (fun _=>?_) (fun q=>absurd (q.symm.trans ((rfl:true=true))) Bool.false_ne_true)
  conv=>whnf
  exact ak.agj hz
 ·conv=>whnf
  refine Fork.mk (fun q=>absurd (q.symm.trans ((rfl:false=false))).symm Bool.false_ne_true) (fun _=>?_)
  conv=>whnf
  refine .mk (by simp only[nI,oz,Rw.len]; omega) ?_
  conv=>whnf
  repeat(refine VC.mk (by simp only[nI,oz,Rw.len]; omega) ?_; conv=>whnf)
  exact ak.ae1 rfl
theorem S.kS(l:List Int)(f:Bool)(hl:l.length<2^30):aj Tryz.prog 178 [.row 0 f (.ints l)] (.row 0 false (.ints l)):=by
 refine aj.of Bd.kS (by simp) rfl rfl ?_
 conv=>whnf
 refine .mk (by simp only[nI,oz,Rw.len]; omega) ?_
 conv=>whnf
 exact ak.ae1 rfl
def mQ(p:aN)(q:Prop'):List Int:=bif decide ((q.start.length:Int)>0) then q.start else p.initial
theorem yS{p:aN}{q:Prop'}(h:jI p q=0):dw p=0:=by
 unfold jI at h
 obtain⟨h1,_⟩:=bz nz h
 exact IJ h1
theorem S.jC(p:aN)(q:Prop')(hp:dP p)(hq:jd q)(hv:jI p q=0):aj Tryz.prog 117 [.dat (.jA p),.dat (.prop q)] (.fJ [.row 0 false (.ints (mQ p q)),.int 0]):=by
 have g5:=hp.initial; have q1:=hq.start
 refine aj.of Bd.jC (by simp) rfl rfl ?_
 conv=>whnf
 refine ah.pure (S.dA p q hp hq) rfl ?_
 conv=>whnf
 refine Fork.mk (fun q=>absurd (q.symm.trans ((by simp[hv]))).symm Bool.false_ne_true) (fun _=>?_)
 conv=>whnf
 refine⟨fun h2=>?_,fun h2=>?_⟩
 ·conv=>whnf
  refine ah.pure (S.Lh q.start false q1) rfl ?_
  conv=>whnf
  exact ak.eqv (by rw[mQ,show decide ((q.start.length:Int)>0)=true from h2]; rfl)
 ·conv=>whnf
  refine ah.pure (S.Lh p.initial false g5) rfl ?_
  conv=>whnf
  exact ak.eqv (by rw[mQ,show decide ((q.start.length:Int)>0)=false from h2]; rfl)
theorem S.jE(p:aN)(q:Prop')(hp:dP p)(hq:jd q):aj Tryz.prog 163 [.dat (.jA p),.dat (.prop q)] (.row 0 false (.ints (mQ p q))):=by
 have g5:=hp.initial; have q1:=hq.start
 refine aj.of Bd.jE (by simp) rfl rfl ?_
 conv=>whnf
 refine⟨fun h2=>?_,fun h2=>?_⟩
 ·conv=>whnf
  refine ah.pure (S.kS q.start false q1) rfl ?_
  conv=>whnf
  exact ak.eqv (by rw[mQ,show decide ((q.start.length:Int)>0)=true from h2]; rfl)
 ·conv=>whnf
  refine ah.pure (S.kS p.initial false g5) rfl ?_
  conv=>whnf
  exact ak.eqv (by rw[mQ,show decide ((q.start.length:Int)>0)=false from h2]; rfl)
theorem S.pF(p:aN)(q:Prop')(hp:dP p)(hq:jd q)(hv:jI p q=0):aj Tryz.prog 121 [.dat (.jA p),.dat (.prop q)] (.fJ [.row 0 false (.ints (mQ p q)),.int 0]):=by
 refine aj.of Bd.pF (by simp) rfl rfl ?_
 conv=>whnf
 refine ah.pure (S.dY p q hp hq) rfl ?_
 conv=>whnf
 refine Fork.mk (fun q=>absurd (q.symm.trans ((by simp[hv]))).symm Bool.false_ne_true) (fun _=>?_)
 conv=>whnf
 refine ah.pure (S.jE p q hp hq) rfl ?_
 conv=>whnf
 exact ak.eqv rfl
theorem KL{p:aN}{q:Prop'}(hp:dP p)(hq:jd q):(mQ p q).length<2^30:=by
 unfold mQ
 cases decide ((q.start.length:Int)>0)
 ·exact hp.initial
 ·exact hq.start
end Go.Proofs.YtkomllaebngbfaaGreatDoor
