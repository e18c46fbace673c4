/-
 A part of the proof. No condition.
-/
import Derived.Test.YtifbibbicplneaaGreatDoorRb
import Derived.Test.YtifbibbicplneaaGreatDoorLf
namespace Go.Proofs.YtifbibbicplneaaGreatDoor
open Go.Ab Go.Proofs
set_option maxRecDepth 100000
def DU(s:Int):List Int->Nat->Int
 |[],_=> -1
 |x::r,i=>bif s==x then(i:Int) else DU s r (i+1)
theorem Xr{s:Int}{l:List Int}:decide (0<=DU s l 0)=l.any fun x=>s==x:=by
 have: ∀ {l:List Int} {i:Nat},0<=DU s l i↔(l.any fun x=>s==x)=true:=by
  intro l
  induction l with
  |nil=>intro i; simp[DU]
  |cons x r ih =>
   intro i
   rw[List.any_cons,Bool.or_eq_true,<- ih (i:=i+1)]
   show(0:Int)<=(bif s==x then(i:Int) else DU s r (i+1))↔_
   generalize (s==x)=b
   cases b<;>simp
 rw[Bool.eq_iff_iff,decide_eq_true_eq]; exact this
theorem S.slices_Index_int(l:List Int)(s:Int)(f:Bool)(hl:l.length<2^40):aj Tryz.prog 143 [.row 0 f (.ints l),.int s] (.int (DU s l 0)):=by
 refine aj.of Bd.ny (by simp) rfl rfl ?_
 conv=>whnf
 refine aC.same [0,1,6,7] (fun i:Nat=>[(8,.int i)]) (fun i=>i<=l.length/\DU s l 0=DU s (l.drop i) i) (fun i=>l.length-i) 0 rfl (by decide) rfl (fun _=>rfl) ⟨by omega,by simp⟩ ⟨⟨_,rfl,rfl⟩,trivial⟩ ?_
 conv=>whnf
 refine⟨rfl,?_⟩
 rintro i ⟨hi,hall⟩
 conv=>whnf
 refine⟨fun h3=>?_,fun h3=>?_⟩
 ·have hi':i<l.length:=by simpa using h3
  rw[bg 0 hi'] at hall
  simp only[DU] at hall
  conv=>whnf
  refine .mk (by simp only[Rw.rng] at *; first|omega|(simp_all; done)|(simp_all; omega)) ?_
  conv=>whnf
  refine⟨fun h4=>?_,fun h4=>?_⟩
  ·conv=>whnf
   refine ak.int ?_
   have h4':(s==l.getD i 0)=true:=h4
   rw[hall,h4']; rfl
  ·conv=>whnf
   refine .mk (by simp only[okI] at *; first|omega|(simp_all; done)|(simp_all; omega)) ?_
   conv=>whnf
   refine⟨i+1,⟨by omega,?_⟩,by omega,⟨⟨_,rfl,rfl⟩,trivial⟩,?_,rfl⟩
   ·have h4':(s==l.getD i 0)=false:=h4
    rw[hall,h4']; rfl
   ·repeat' (first|exact trivial|exact⟨_,rfl,rfl⟩|constructor)
 ·conv=>whnf
  refine ak.int ?_
  have hi':l.length<=i:=by simpa using h3
  rw[hall,List.drop_eq_nil_of_le hi']; rfl
def rF(l:List Int)(s:Int):Bool:=l.any fun x=>s==x
theorem S.slices_Contains_int(l:List Int)(s:Int)(f:Bool)(hl:l.length<2^40):aj Tryz.prog 100 [.row 0 f (.ints l),.int s] (.bool (rF l s)):=by
 refine aj.of Bd.kV (by simp) rfl rfl ?_
 conv=>whnf
 refine ah.pure (S.slices_Index_int l s f hl) rfl ?_
 conv=>whnf
 exact ak.bool Xr.symm
theorem S.Iw(l:List Int)(s:Int)(f:Bool)(hl:l.length<2^40):aj Tryz.prog 169 [.row 0 f (.ints l),.int s] (.bool (rF l s)):=by
 refine aj.of Bd.Iw (by simp) rfl rfl ?_
 conv=>whnf
 refine aC.same [0,1] (fun i:Nat=>[(5,.int i)]) (fun i=>i<=l.length/\(l.take i).any (fun x=>s==x)=false) (fun i=>l.length-i) 0 rfl (by decide) rfl (fun _=>rfl) ⟨by omega,by simp⟩ ⟨⟨_,rfl,rfl⟩,trivial⟩ ?_
 conv=>whnf
 refine⟨rfl,?_⟩
 rintro i ⟨hi,hall⟩
 conv=>whnf
 refine⟨fun h3=>?_,fun h3=>?_⟩
 ·have hi':i<l.length:=by simpa using h3
  conv=>whnf
  refine .mk (by simp only[Rw.rng] at *; first|omega|(simp_all; done)|(simp_all; omega)) ?_
  conv=>whnf
  refine⟨fun h4=>?_,fun h4=>?_⟩
  ·have h4':(s==l.getD i 0)=true:=by rw[show(s==l.getD i 0)=(l.getD i 0==s) from Bool.beq_comm]; exact h4
   conv=>whnf
   exact ak.bool (dS (d:=0) hi' h4')
  ·have h4':(s==l.getD i 0)=false:=by rw[show(s==l.getD i 0)=(l.getD i 0==s) from Bool.beq_comm]; exact h4
   conv=>whnf
   refine .mk (by simp only[okI] at *; first|omega|(simp_all; done)|(simp_all; omega)) ?_
   conv=>whnf
   refine⟨i+1,⟨by omega,?_⟩,by omega,⟨⟨_,rfl,rfl⟩,trivial⟩,?_,rfl⟩
   ·rw[fU (d:=0) hi' hall]; exact h4'
   ·repeat' (first|exact trivial|exact⟨_,rfl,rfl⟩|constructor)
 ·have hi':l.length<=i:=by simpa using h3
  rw[List.take_of_length_le hi'] at hall
  conv=>whnf
  exact ak.bool hall
def DV(c l:List Int):Bool:=l.any fun q=>decide (c.getD q.toNat 0>0)
def oK(n:Nat)(l:List Int):Prop:= ∀ q∈l,0<=q/\q<n
theorem S.zT(c l:List Int)(f g:Bool)(_hc:c.length<2^40)(hl:l.length<2^40)(hp:oK c.length l):aj Tryz.prog 149 [.row 0 f (.ints c),.row 0 g (.ints l)] (.bool (DV c l)):=by
 refine aj.of Bd.zT (by simp) rfl rfl ?_
 conv=>whnf
 refine aC.same [0,1] (fun i:Nat=>[(5,.int i)]) (fun i=>i<=l.length/\(l.take i).any (fun q=>decide (c.getD q.toNat 0>0))=false) (fun i=>l.length-i) 0 rfl (by decide) rfl (fun _=>rfl) ⟨by omega,by simp⟩ ⟨⟨_,rfl,rfl⟩,trivial⟩ ?_
 conv=>whnf
 refine⟨rfl,?_⟩
 rintro i ⟨hi,hall⟩
 conv=>whnf
 refine⟨fun h3=>?_,fun h3=>?_⟩
 ·have hi':i<l.length:=by simpa using h3
  have hq:0<=l.getD i 0/\l.getD i 0<c.length:=by
   rw[show l.getD i 0=l[i] by simp[hi']]; exact hp _ (List.getElem_mem hi')
  conv=>whnf
  repeat(refine VC.mk (by simp only[Rw.rng] at *; first|omega|(simp_all; done)|(simp_all; omega)) ?_; conv=>whnf)
  refine⟨fun h4=>?_,fun h4=>?_⟩
  ·conv=>whnf
   exact ak.bool (dS (d:=0) hi' h4)
  ·conv=>whnf
   refine .mk (by simp only[okI] at *; first|omega|(simp_all; done)|(simp_all; omega)) ?_
   conv=>whnf
   refine⟨i+1,⟨by omega,?_⟩,by omega,⟨⟨_,rfl,rfl⟩,trivial⟩,?_,rfl⟩
   ·rw[fU (d:=0) hi' hall]; exact h4
   ·repeat' (first|exact trivial|exact⟨_,rfl,rfl⟩|constructor)
 ·have hi':l.length<=i:=by simpa using h3
  rw[List.take_of_length_le hi'] at hall
  conv=>whnf
  exact ak.bool hall
def GU(c l:List Int):Bool:=(List.range c.length).any fun i=>decide (c.getD i 0>0)&& !(rF l i)
theorem S.sZ(c l:List Int)(f g:Bool)(hc:c.length<2^40)(hl:l.length<2^40):aj Tryz.prog 150 [.row 0 f (.ints c),.row 0 g (.ints l)] (.bool (GU c l)):=by
 refine aj.of Bd.sZ (by simp) rfl rfl ?_
 conv=>whnf
 refine aC.same [0,1] (fun i:Nat=>[(5,.int i)]) (fun i=>i<=c.length/\(List.range i).any (fun i=>decide (c.getD i 0>0)&& !(rF l i))=false) (fun i=>c.length-i) 0 rfl (by decide) rfl (fun _=>rfl) ⟨by omega,by simp⟩ ⟨⟨_,rfl,rfl⟩,trivial⟩ ?_
 conv=>whnf
 refine⟨rfl,?_⟩
 rintro i ⟨hi,hall⟩
 conv=>whnf
 refine⟨fun h3=>?_,fun h3=>?_⟩
 ·have hi':i<c.length:=by simpa using h3
  conv=>whnf
  repeat(refine VC.mk (by first|exact fun h=>⟨h,h⟩|(simp only[Rw.rng] at *; first|omega|(simp_all; done)|(simp_all; omega))) ?_; conv=>whnf)
  refine ah.cO (fun _=>S.Iw l i g hl) rfl ?_
  conv=>whnf
  repeat(refine VC.mk id ?_; conv=>whnf)
  refine⟨fun h4=>?_,fun h4=>?_⟩
  ·conv=>whnf
   exact ak.bool (xP.2 ⟨i,hi',h4⟩)
  ·conv=>whnf
   refine .mk (by simp only[okI] at *; first|omega|(simp_all; done)|(simp_all; omega)) ?_
   conv=>whnf
   refine⟨i+1,⟨by omega,?_⟩,by omega,⟨⟨_,rfl,rfl⟩,trivial⟩,?_,rfl⟩
   ·rw[List.range_succ,List.any_append,hall]
    simp only[List.any_cons,List.any_nil,Bool.or_false,Bool.false_or]; exact h4
   ·repeat' (first|exact trivial|exact⟨_,rfl,rfl⟩|constructor)
 ·have hi':c.length<=i:=by simpa using h3
  have e:i=c.length:=Nat.le_antisymm hi hi'
  subst e
  conv=>whnf
  exact ak.bool hall
def xC(ex c:List Int)(i:Nat):Bool:=((ex.length:Int)==0)||(List.range i).any fun j=> !(c.getD j 0==0)&&rF ex j
def ug(al c:List Int)(i:Nat):Bool:=(List.range i).any fun j=> !(c.getD j 0==0)&&(decide ((al.length:Int)>0)&& !(rF al j))
def uh(r:Rule)(c:List Int):Bool:= !(ug r.all c c.length)&&xC r.ex c c.length
theorem QV{ex c:List Int}{i:Nat}:xC ex c (i+1)=(xC ex c i||(!(c.getD i 0==0)&&rF ex i)):=by
 simp only[xC,List.range_succ,List.any_append,List.any_cons,List.any_nil,Bool.or_false,Bool.or_assoc]
theorem QW{al c:List Int}{i:Nat}:ug al c (i+1)=(ug al c i||(!(c.getD i 0==0)&&(decide ((al.length:Int)>0)&& !(rF al i)))):=by
 simp only[ug,List.range_succ,List.any_append,List.any_cons,List.any_nil,Bool.or_false]
theorem Xt{al c:List Int}{i:Nat}(hi:i<c.length)(h0:(c.getD i 0==0)=false)(h:(decide ((al.length:Int)>0)&& !(rF al i))=true):ug al c c.length=true :=
 xP.2 ⟨i,hi,by rw[h0,h]; rfl⟩
structure xE(n:Nat)(r:Rule):Prop where
 src:0<=r.fr/\r.fr<n
 dst:0<=r.to/\r.to<n
 adb:0<=r.gQ/\r.gQ<n
 ade:0<=r.BL/\r.BL<n
 rsp:r.kind=3->r.response.length=n/\oK n r.response
 exs:oK n r.ex
def yO(c:List Int):Prop:= ∀ x∈c,0<=x/\x<=1048576
def gy(c:List Int)(i d:Int):List Int:=c.set i.toNat (c.getD i.toNat 0+d)
def aQ(c:List Int)(i:Int):List Int:=c.set i.toNat (c.getD i.toNat 0-1)
def qJ(r:Rule)(c:List Int)(i:Nat):List Int:=(List.range i).foldl (fun a j=>gy a (r.response.getD j 0) (c.getD j 0)) (List.replicate c.length 0)
def bF(r:Rule)(e:Elem):Option Elem :=
 let c1:=aQ e.counts r.fr
 let out (c:List Int):Option Elem:=some ⟨bif decide (r.write>=0) then r.write else e.value,gy c r.to 1⟩
 bif (decide (0<=r.read)&&e.value !=r.read||e.counts.getD r.fr.toNat 0==0) then none else
 bif r.kind==1 then(bif !(uh r c1) then none else out c1) else
 bif r.kind==2 then(bif c1.getD r.gQ.toNat 0==0 then none else out (gy (aQ c1 r.gQ) r.BL 1)) else
 bif r.kind==3 then out (qJ r c1 c1.length) else out c1
def oN(r:Rule)(e:Elem):V:=match bF r e with
 |none=>.fA [.agg [.int 0,.row 0 true .nil],.bool false]
 |some x=>.fA [.dat (.elem x),.bool true]
theorem QX(r:Rule)(e:Elem):(oN r e).free=true:=by
 unfold oN; cases bF r e<;>rfl
def Iy(r:Rule)(e:Elem):V:=.fA [.dat (.elem ((bF r e).getD ⟨0,[]⟩)),.bool (bF r e).isSome]
theorem U0{Z:Nat->Prop}{h:Hp}(r:Rule)(e:Elem):T.sub Z h (Iy r e).aH (oN r e).aH:=by
 unfold Iy oN
 cases bF r e with
 |none =>
  show T.sub Z h (.fA [.agg [.int 0,.sl 0 false []],.bool false]) (.fA [.agg [.int 0,.sl 0 true []],.bool false])
  simp[T.sub,T.dH]
 |some x=>exact aB _
theorem aj.Iy{f:FuncId}{r:Rule}{e:Elem}(S:aj Tryz.prog f [.dat (.rule r),.dat (.elem e)] (oN r e)):aj Tryz.prog f [.dat (.rule r),.dat (.elem e)] (Iy r e) :=
 wI.shut S (fun _=>U0 r e) rfl
theorem yO.get{c:List Int}(h:yO c){i:Nat}(hi:i<c.length):0<=c.getD i 0/\c.getD i 0<=1048576:=by
 rw[show c.getD i 0=c[i] by simp[hi]]; exact h _ (List.getElem_mem hi)
theorem zU{h:Hz}{j:Nat}{Z:Nat->Prop}{l:List Int}(hz:Z j)(q:h.get j=some (.row 3 0 (.ints l) [])):T.sub Z h.au (V.row 0 false (.ints l)).aH (V.own j).aH:=by
 show T.sub Z h.au (.sl 0 false (l.map T.int)) (.own j)
 simp only[T.sub]
 refine⟨trivial,hz,?_,by decide,3,?_⟩
 ·rw[gJ]; intro t ht; obtain⟨x,_,rfl⟩:=List.mem_map.1 ht; rfl
 ·have:=aK q
  rw[this]; simp[OV.aG,Rw.aX,V.aX]
def okB(b:Int)(c:List Int):Prop:= ∀ x∈c,-b<=x/\x<=b
theorem okB.get{b:Int}{c:List Int}(h:okB b c)(hb:0<=b)(i:Nat): -b<=c.getD i 0/\c.getD i 0<=b:=by
 by_cases hi:i<c.length
 ·rw[show c.getD i 0=c[i] by simp[hi]]; exact h _ (List.getElem_mem hi)
 ·rw[show c.getD i 0=0 by simp[List.getD_eq_getElem?_getD,List.getElem?_eq_none (by omega:c.length<=i)]]; omega
theorem okB.add{b k:Int}{c:List Int}(h:okB b c)(hb:0<=b)(i d:Int)(hd: -k<=d/\d<=k):okB (b+k) (gy c i d):=by
 intro x hx
 have hk:0<=k:=by omega
 rcases List.mem_or_eq_of_mem_set hx with hx|rfl
 ·have:=h x hx; omega
 ·have:=h.get hb i.toNat; omega
theorem okB.dec{b:Int}{c:List Int}(h:okB b c)(hb:0<=b)(i:Int):okB (b+1) (aQ c i):=by
 have:=h.add hb i (-1) (k:=1) ⟨by omega,by omega⟩
 rw[show aQ c i=gy c i (-1) by simp only[aQ,gy]; rfl]; exact this
theorem yO.b{c:List Int}(h:yO c):okB 1048576 c:=fun x hx=>by have:=h x hx; omega
theorem ak.KH{h:Hz}{j:Nat}{v:Int}{l:List Int}(q:h.get j=some (.row 3 0 (.ints l) [])):ak (.fA [.dat (.elem ⟨v,l⟩),.bool true]) (.fA [.agg [.int v,.own j],.bool true]) h:=⟨by
 show T.sub (fun _=>True) h.au (.fA [.agg [.int v,.sl 0 false (l.map T.int)],.bool true]) (.fA [.agg [.int v,.own j],.bool true])
 have:=zU (Z:=fun _=>True) trivial q
 replace this:T.sub (fun _=>True) h.au (.sl 0 false (l.map T.int)) (.own j):=this
 simp only[T.sub] at this
 simp only[T.sub,T.dH]
 exact⟨⟨trivial,this,trivial⟩,trivial,trivial⟩⟩
theorem xQ{n:Nat}(h:0<n):(bif isZero (.int n) then some Rw.nil else Xu (n:Int).toNat (T.int 0))=some (.ints (List.replicate n 0)):=by
 cases n with
 |zero=>omega
 |succ k=>rfl
theorem xR{r:Rule}{c:List Int}{i:Nat}:qJ r c (i+1)=gy (qJ r c i) (r.response.getD i 0) (c.getD i 0):=by
 simp only[qJ,List.range_succ,List.foldl_append,List.foldl_cons,List.foldl_nil]
theorem vG{r:Rule}{c:List Int}{i:Nat}:(qJ r c i).length=c.length:=by
 induction i with
 |zero=>simp[qJ]
 |succ i ih=>rw[xR]; simp[gy,ih]
theorem Xv{r:Rule}{c:List Int}{b:Int}(h:okB b c)(hb:0<=b)(i:Nat):okB (i*b) (qJ r c i):=by
 induction i with
 |zero=>intro x hx; simp[qJ] at hx; omega
 |succ i ih =>
  rw[xR]
  have h0:0<=(i:Int)*b:=Int.mul_nonneg (by omega) hb
  have:=ih.add h0 (r.response.getD i 0) (c.getD i 0) (k:=b) (h.get hb i)
  rw[show((i+1:Nat):Int)*b=i*b+b by rw[Int.natCast_add,Int.add_mul]; simp]; exact this
abbrev iR(l:List Int):OV:=.row 3 0 (.ints l) []
theorem S.U1(e:Elem)(he:e.counts.length<2^30)(n:Nat):aU Tryz.prog 148 (V.aX [.dat (.elem e)]) (Hz.au []) n (fun t hp=>t= .agg [.int e.value,.own n]/\hp=Hz.au [(n,some (iR e.counts))]):=by
 refine rH.of (nx:=0) Bd.Iz (by simp) ⟨_,_,rfl,rfl⟩ rfl rfl ?_
 conv=>whnf
 refine .mk (by simp only[kJ,jG,Rw.len]; omega) ?_
 conv=>whnf
 exact kW.one (c:=n) (j:=7) (o:=iR e.counts) (t:=.agg [.int e.value,.own n]) rfl rfl rfl nofun (.inr rfl) ⟨trivial,rfl,trivial⟩ (.eq rfl) ⟨rfl,rfl⟩
theorem S.U2(e:Elem)(he:e.counts.length<2^30):wI Tryz.prog 148 [nI e] (fun n=>.agg [.int e.value,.own n]) (some ⟨3,0,e.counts.map T.int⟩):=by
 refine⟨by exact V.gK [.dat (.elem e)] rfl,fun n=>⟨trivial,rfl,trivial⟩,fun ob h=>?_,fun ob h=>?_,fun n=>?_⟩
 ·cases h
  show T.dw (e.counts.map T.int)=true
  rw[gJ]; intro t ht; obtain⟨x,_,rfl⟩:=List.mem_map.1 ht; rfl
 ·cases h; exact show(0:Nat)≠fM by decide
 ·have:=S.U1 e he n
  have e1:Hz.au [(n,some (iR e.counts))]=ng no n (some ⟨3,0,e.counts.map T.int⟩):=by
   rw[bD]; simp[ng,OV.aG,Rw.aX,V.aX]; rfl
  rw[e1] at this
  exact this
theorem ZF{h:Hz}{n:Nat}{l:List Int}:ng h.au n (some ⟨3,0,l.map T.int⟩)=Hz.au ((n,some (iR l))::h):=by
 rw[bD]; simp[ng,OV.aG,Rw.aX,V.aX]
theorem lt1{x:Int}(h:0<=x):decide (x<1)=(x==0):=by
 rw[Bool.eq_iff_iff]; simp; omega
theorem DW{l:List Int}{s:Int}:rF l s=true↔s∈l:=by
 simp only[rF,List.any_eq_true,beq_iff_eq]
 constructor
 ·rintro⟨x,h,rfl⟩; exact h
 ·intro h; exact⟨s,h,rfl⟩
theorem Xw{al c:List Int}(hc: ∀ i,0<=c.getD i 0):ug al c c.length=(decide (0<(al.length:Int))&&GU c al):=by
 rw[Bool.eq_iff_iff,Bool.and_eq_true]
 simp only[ug,GU,xP,Bool.and_eq_true,decide_eq_true_eq,Bool.not_eq_true',beq_eq_false_iff_ne,ne_eq]
 constructor
 ·rintro⟨i,h1,h2,h3,h4⟩
  exact⟨h3,i,h1,by have:=hc i; omega,h4⟩
 ·rintro⟨h3,i,h1,h2,h4⟩
  exact⟨i,h1,by omega,h3,h4⟩
theorem found_eq{ex c:List Int}(hc: ∀ i,0<=c.getD i 0)(hx:oK c.length ex):(!(xC ex c c.length))=(decide (0<(ex.length:Int))&& !(DV c ex)):=by
 have h:xC ex c c.length=(!(decide (0<(ex.length:Int)))||DV c ex):=by
  rw[xC]
  congr 1
  ·rw[Bool.eq_iff_iff]; simp
  ·rw[Bool.eq_iff_iff]
   simp only[DV,List.mem_range,Bool.and_eq_true,decide_eq_true_eq,Bool.not_eq_true',beq_eq_false_iff_ne,ne_eq,List.any_eq_true,DW]
   constructor
   ·rintro⟨i,h1,h2,h3⟩
    exact⟨i,h3,by have:=hc i; simp only[Int.toNat_natCast]; omega⟩
   ·rintro⟨q,h1,h2⟩
    obtain⟨t1,t2⟩:=hx q h1
    have t3:q.toNat<c.length:=by omega
    have t4: ¬ c.getD q.toNat 0=0:=by omega
    exact⟨q.toNat,t3,t4,by rw[Int.toNat_of_nonneg t1]; exact h1⟩
 rw[h]; cases decide (0<(ex.length:Int))<;>cases DV c ex<;>rfl
theorem OA{r:Rule}{c:List Int}(hc: ∀ i,0<=c.getD i 0)(hx:oK c.length r.ex) :
  ((decide (0<(r.ex.length:Int))&& !(DV c r.ex))||(decide (0<(r.all.length:Int))&&GU c r.all))= !(uh r c):=by
 rw[uh,Bool.not_and,Bool.not_not,Xw hc,found_eq hc hx,Bool.or_comm]
theorem TP{r:Rule}{e:Elem}(hc:yO e.counts)(h1:(decide (0<=r.read)&&e.value !=r.read||e.counts.getD r.fr.toNat 0==0)=false)(i:Nat):0<=(aQ e.counts r.fr).getD i 0:=by
 have h0: ∀ j,0<=e.counts.getD j 0:=fun j=>by
  by_cases hj:j<e.counts.length
  ·exact(hc.get hj).1
  ·rw[show e.counts.getD j 0=0 by simp[List.getD_eq_getElem?_getD,List.getElem?_eq_none (by omega:e.counts.length<=j)]]; omega
 have h2:e.counts.getD r.fr.toNat 0≠0:=by
  rw[Bool.or_eq_false_iff] at h1
  have:=h1.2
  simpa using this
 have h3:=h0 r.fr.toNat
 have h4:=h0 i
 rw[aQ,List.getD_eq_getElem?_getD,List.getElem?_set]
 split
 ·split
  ·simp only[Option.getD_some]; omega
  ·simp
 ·rw[<- List.getD_eq_getElem?_getD]; exact h4
theorem okF{ρ:Nat->Nat}{nx pn c n:Nat}{h:Hz}{s:List Nat}{o o':OV}(q1:Nat.blt c nx=true)(q2:Nat.blt c pn=true->n=c)(q3:IB n s=true)(q4:(o.good nx&&o.MF)=true)(q5:h.get n=some o')
  (q6:o'.aG.ty=o.aG.ty/\o'.aG.k=o.aG.k) (q7:o.aG.l=o'.aG.l):Nat.blt c nx=true/\(Nat.blt c pn=true->n=c)/\IB n s=true/\o.good nx=true /\
   ∃ o',h.get n=some o'/\o'.aG.ty=o.aG.ty/\o'.aG.k=o.aG.k/\aV (T.dA ρ o.aG.l) o'.aG.l:=by
 rw[Bool.and_eq_true] at q4
 exact⟨q1,q2,q3,q4.1,o',q5,q6.1,q6.2,aV.of_eq ((OV.DX q4.2 ρ).trans q7)⟩
set_option maxHeartbeats 1000000 in
theorem S.zV(r:Rule)(e:Elem)(hr:vF r)(hp:xE e.counts.length r)(hc:yO e.counts)(hl:e.counts.length<=6):aj Tryz.prog 108 [.dat (.rule r),.dat (.elem e)] (oN r e):=by
 obtain⟨f1,f2⟩:=hp.src
 obtain⟨d1,d2⟩:=hp.dst
 obtain⟨p1,p2⟩:=hp.adb
 obtain⟨q1,q2⟩:=hp.ade
 have hfr:=hc.get (i:=r.fr.toNat) (by omega)
 refine aj.of Bd.zV (by simp) rfl (QX r e) ?_
 conv=>whnf
 repeat(refine VC.mk (by first|exact id|exact fun h=>⟨h,h⟩|(intro h; rw[h]; rfl)|(intro h; (repeat' apply And.intro)<;>first|exact h|omega|(simp only[Rw.kK]; omega)|(simp only[Rw.rng]; omega))) ?_; conv=>whnf)
 refine⟨fun h1=>?_,fun h1=>?_⟩
 ·conv=>whnf
  refine ak.eqv ?_
  rw[lt1 hfr.1] at h1
  rw[oN,bF,h1]; rfl
 rw[lt1 hfr.1] at h1
 conv=>whnf
 refine ah.heap (wI.frame (S.U2 e (by omega)) _ _) ?_
 rintro t hp ⟨rfl,rfl⟩
 refine⟨.agg [.int e.value,.own 24],(24,some (iR e.counts))::_,rfl,ZF,?_⟩
 have hl1:(aQ e.counts r.fr).length=e.counts.length:=by simp[aQ]
 conv=>whnf
 repeat(refine VC.mk (by first|(first|(simp only[Rw.rng]; omega)|(simp only[okI,aQ] at *; omega))|exact fun h=>h|exact fun h=>⟨h,h⟩) ?_; conv=>whnf)
 have hex:=hr.ex
 have hal:=hr.all
 refine ah.KF (fun _=>S.zT (aQ e.counts r.fr) r.ex false false (by omega) (by omega) (by rw[hl1]; exact hp.exs)) (fun _=>And.intro (zU trivial rfl) (And.intro (aB _) trivial)) rfl rfl ?_
 conv=>whnf
 repeat(refine VC.mk (by first|exact id|exact fun h=>⟨h,h⟩|(intro h; simp[h]; done)) ?_; conv=>whnf)
 refine ah.KF (fun _=>S.sZ (aQ e.counts r.fr) r.all false false (by omega) (by omega)) (fun _=>And.intro (zU trivial rfl) (And.intro (aB _) trivial)) rfl rfl ?_
 conv=>whnf
 repeat(refine VC.mk (by cases (r.kind==1)<;>cases (decide (0<(r.ex.length:Int))&& !DV (aQ e.counts r.fr) r.ex)<;>simp) ?_; conv=>whnf)
 have hpos: ∀ i,0<=(aQ e.counts r.fr).getD i 0:=TP hc h1
 refine⟨fun h2=>?_,fun h2=>?_⟩
 ·replace h2:((r.kind==1)&&((decide (0<(r.ex.length:Int))&& !(DV (aQ e.counts r.fr) r.ex))||(decide (0<(r.all.length:Int))&&GU (aQ e.counts r.fr) r.all)))=true:=h2
  rw[OA hpos (by rw[hl1]; exact hp.exs),Bool.and_eq_true] at h2
  conv=>whnf
  refine ak.eqv ?_
  rw[oN,bF,h1,h2.1,h2.2]; rfl
 replace h2:((r.kind==1)&&((decide (0<(r.ex.length:Int))&& !(DV (aQ e.counts r.fr) r.ex))||(decide (0<(r.all.length:Int))&&GU (aQ e.counts r.fr) r.all)))=false:=h2
 rw[OA hpos (by rw[hl1]; exact hp.exs)] at h2
 conv=>whnf
 refine⟨fun h5=>?_,fun h5=>?_⟩
 ·replace h5:(r.kind==2)=true:=h5
  have hB:=hc.b.dec (by omega) r.fr
  have hB1:=hB.get (by omega) r.gQ.toNat
  have hB2:=hB.dec (by omega) r.gQ
  have hB3:=hB2.get (by omega) r.BL.toNat
  have hB4:=hB2.add (by omega) r.BL 1 (k:=1) ⟨by omega,by omega⟩
  have hB5:=hB4.get (by omega) r.to.toNat
  have h12:(r.kind==1)=false:=by rw[beq_iff_eq.1 h5]; rfl
  conv=>whnf
  repeat(refine VC.mk (by first|(simp only[Rw.rng,List.length_set]; omega)|(simp only[aQ,gy] at *; omega)) ?_; conv=>whnf)
  refine⟨fun h6=>?_,fun h6=>?_⟩
  ·replace h6:decide ((aQ e.counts r.fr).getD r.gQ.toNat 0<1)=true:=h6
   rw[lt1 (hpos _)] at h6
   conv=>whnf
   refine ak.eqv ?_
   rw[oN,bF,h1,h12,h5,h6]; rfl
  ·replace h6:decide ((aQ e.counts r.fr).getD r.gQ.toNat 0<1)=false:=h6
   rw[lt1 (hpos _)] at h6
   have h13:(r.kind==3)=false:=by rw[beq_iff_eq.1 h5]; rfl
   conv=>whnf
   repeat(refine VC.mk (by first|(simp only[Rw.rng,List.length_set]; omega)|(simp only[okI,aQ,gy] at *; omega)) ?_; conv=>whnf)
   refine Fork.mk (fun q=>absurd (q.symm.trans (h13)).symm Bool.false_ne_true) (fun _=>?_)
   conv=>whnf
   repeat(refine VC.mk (by simp only[okI,Rw.rng] at *; first|omega|(simp_all; done)|(simp_all; omega)) ?_; conv=>whnf)
   conv=>whnf
   repeat(refine VC.mk (by first|(simp only[Rw.rng,List.length_set]; omega)|(simp only[okI,aQ,gy] at *; omega)) ?_; conv=>whnf)
   refine⟨fun h4=>?_,fun h4=>?_⟩
   ·replace h4:decide (r.write>=0)=true:=h4
    have hS:oN r e= .fA [.dat (.elem ⟨r.write,gy (gy (aQ (aQ e.counts r.fr) r.gQ) r.BL 1) r.to 1⟩),.bool true]:=by rw[oN,bF,h1,h12,h5,h6,h4]; rfl
    conv=>whnf
    rw[hS]
    exact ak.KH rfl
   ·replace h4:decide (r.write>=0)=false:=h4
    have hS:oN r e= .fA [.dat (.elem ⟨e.value,gy (gy (aQ (aQ e.counts r.fr) r.gQ) r.BL 1) r.to 1⟩),.bool true]:=by rw[oN,bF,h1,h12,h5,h6,h4]; rfl
    conv=>whnf
    rw[hS]
    exact ak.KH rfl
 ·replace h5:(r.kind==2)=false:=h5
  conv=>whnf
  refine⟨fun h6=>?_,fun h6=>?_⟩
  ·have h12:(r.kind==1)=false:=by rw[beq_iff_eq.1 h6]; rfl
   have hB:=hc.b.dec (by omega) r.fr
   obtain⟨rs1,rs2⟩:=hp.rsp (beq_iff_eq.1 h6)
   conv=>whnf
   have hm:=xQ (n:=(aQ e.counts r.fr).length) (by omega)
   simp only[aQ] at hm
   rw[hm]
   conv=>whnf
   refine .mk (by simp only[List.length_set]; omega) ?_
   conv=>whnf
   refine aC.vH 100 [2,4,6] (fun i:Nat=>[(8,.int i),(7,.own 75)]) (fun i=>[(0,.box 107 19 (.dat (.rule r))),(1,.box 41 3 (.dat (.elem e))),(2,.box 41 3 (.agg [.int 0,.row 0 true .nil])),(24,iR (aQ e.counts r.fr)),(25,.box 41 3 (.agg [.int e.value,.own 24])),(75,iR (qJ r (aQ e.counts r.fr) i))]) (fun i=>i<=(aQ e.counts r.fr).length) (fun i=>(aQ e.counts r.fr).length-i) 0 [0,1,2,24,25,75] rfl (by decide) (fun _=>rfl) (Nat.zero_le _) ?_ ?_ ?_
   ·exact⟨⟨_,rfl,.eq rfl⟩,⟨_,rfl,.eq rfl⟩,trivial⟩
   ·exact⟨okF rfl nofun rfl rfl rfl ⟨rfl,rfl⟩ rfl,okF rfl nofun rfl rfl rfl ⟨rfl,rfl⟩ rfl,okF rfl nofun rfl rfl rfl ⟨rfl,rfl⟩ rfl,okF rfl nofun rfl rfl rfl ⟨rfl,rfl⟩ rfl,⟨rfl,nofun,rfl,rfl,_,rfl,rfl,rfl,aV.of_eq rfl⟩,okF rfl nofun rfl rfl rfl ⟨rfl,rfl⟩ rfl,trivial⟩
   conv=>whnf
   refine⟨⟨⟨_,rfl,.eq rfl⟩,⟨_,rfl,.eq rfl⟩,⟨_,rfl,.eq rfl⟩,trivial⟩,rfl,?_⟩
   rintro i hi
   have DY:(i:Int)*1048577<=6*1048577:=Int.mul_le_mul_of_nonneg_right (by omega) (by omega)
   have hn0:0<=(i:Int)*1048577:=Int.mul_nonneg (by omega) (by omega)
   have hRB:=Xv hB (by omega) (r:=r) i
   have hRl:(qJ r (aQ e.counts r.fr) i).length=e.counts.length:=by rw[vG,hl1]
   conv=>whnf
   refine⟨fun g1=>?_,fun g1=>?_⟩
   ·have hi':i<(aQ e.counts r.fr).length:=by
     have:(i:Int)<((qJ r (aQ e.counts r.fr) i).length:Int):=of_decide_eq_true g1
     omega
    have hir:i<r.response.length:=by omega
    obtain⟨q3,q4⟩:0<=r.response.getD i 0/\r.response.getD i 0<e.counts.length:=by
     rw[show r.response.getD i 0=r.response[i] by simp[hir]]; exact rs2 _ (List.getElem_mem hir)
    have hR1:=hRB.get hn0 (r.response.getD i 0).toNat
    have hR2:=hB.get (by omega) i
    conv=>whnf
    repeat(refine VC.mk (by first|(first|(simp only[Rw.rng,vG]; omega)|(simp only[okI,aQ,Int.toNat_natCast] at *; omega))|(simp only[Rw.rng] at *; first|omega|(simp_all; done)|(simp_all; omega))) ?_; conv=>whnf)
    refine⟨i+1,[0,1,2,24,25,75],by omega,by omega,⟨⟨_,rfl,.eq rfl⟩,⟨_,rfl,.eq rfl⟩,trivial⟩,⟨⟨_,rfl,.eq rfl⟩,⟨_,rfl,.eq rfl⟩,⟨_,rfl,.eq rfl⟩,trivial⟩,okF rfl nofun rfl rfl rfl ⟨rfl,rfl⟩ rfl,okF rfl nofun rfl rfl rfl ⟨rfl,rfl⟩ rfl,okF rfl nofun rfl rfl rfl ⟨rfl,rfl⟩ rfl,okF rfl nofun rfl rfl rfl ⟨rfl,rfl⟩ rfl,⟨rfl,nofun,rfl,rfl,_,rfl,rfl,rfl,aV.of_eq rfl⟩,okF rfl nofun rfl rfl rfl ?_ ?_,trivial⟩
    ·exact⟨rfl,rfl⟩
    ·rw[xR]; rfl
   have hi':i=(aQ e.counts r.fr).length:=by
    have: ¬ ((i:Int)<((qJ r (aQ e.counts r.fr) i).length:Int)):=of_decide_eq_false g1
    omega
   subst hi'
   have hR1:=hRB.get hn0 r.to.toNat
   conv=>whnf
   repeat(refine VC.mk (by first|(simp only[Rw.rng,vG]; omega)|(simp only[okI,aQ,Int.toNat_natCast] at *; omega)) ?_; conv=>whnf)
   refine⟨fun h4=>?_,fun h4=>?_⟩
   ·replace h4:decide (r.write>=0)=true:=h4
    have hS:oN r e= .fA [.dat (.elem ⟨r.write,gy (qJ r (aQ e.counts r.fr) (aQ e.counts r.fr).length) r.to 1⟩),.bool true]:=by rw[oN,bF,h1,h12,h5,h6,h4]; rfl
    conv=>whnf
    rw[hS]
    exact ak.KH rfl
   ·replace h4:decide (r.write>=0)=false:=h4
    have hS:oN r e= .fA [.dat (.elem ⟨e.value,gy (qJ r (aQ e.counts r.fr) (aQ e.counts r.fr).length) r.to 1⟩),.bool true]:=by rw[oN,bF,h1,h12,h5,h6,h4]; rfl
    conv=>whnf
    rw[hS]
    exact ak.KH rfl
  ·replace h6:(r.kind==3)=false:=h6
   have hB:=hc.b.dec (by omega) r.fr
   have hB1:=hB.get (by omega) r.to.toNat
   have hgen:bF r e=some ⟨bif decide (r.write>=0) then r.write else e.value,gy (aQ e.counts r.fr) r.to 1⟩:=by
    rw[bF,h1,h5,h6]
    cases h12:(r.kind==1) with
    |false=>rfl
    |true=>rw[h12,Bool.true_and] at h2; rw[h2]; rfl
   conv=>whnf
   repeat(refine VC.mk (by first|(simp only[Rw.rng,List.length_set]; omega)|(simp only[okI,aQ,gy] at *; omega)) ?_; conv=>whnf)
   refine⟨fun h4=>?_,fun h4=>?_⟩
   ·replace h4:decide (r.write>=0)=true:=h4
    have hS:oN r e= .fA [.dat (.elem ⟨r.write,gy (aQ e.counts r.fr) r.to 1⟩),.bool true]:=by rw[oN,hgen,h4]; rfl
    conv=>whnf
    rw[hS]
    exact ak.KH rfl
   ·replace h4:decide (r.write>=0)=false:=h4
    have hS:oN r e= .fA [.dat (.elem ⟨e.value,gy (aQ e.counts r.fr) r.to 1⟩),.bool true]:=by rw[oN,hgen,h4]; rfl
    conv=>whnf
    rw[hS]
    exact ak.KH rfl
theorem bz{c:Bool}{a b:Int}(ha:c=true->a≠0)(h:(bif c then a else b)=0):c=false/\b=0:=by
 cases c with
 |true=>exact absurd h (ha rfl)
 |false=>exact⟨rfl,h⟩
theorem nz{a:Int}(h:(a !=0)=true):a≠0:=by simpa using h
theorem jH: ∀ {l:List Int},aS l=0-> ∀ x∈l,x=0:=by
 intro l
 induction l with
 |nil=>intro _ x h; cases h
 |cons a r ih =>
  intro h x hx
  simp only[aS] at h
  split at h
  ·rename_i h0
   rcases List.mem_cons.1 hx with rfl|hx
   ·exact h0
   ·exact ih h x hx
  ·rename_i h0; exact absurd h h0
structure yT(p:aP):Prop where
 pos:0<p.states.length
 states:p.states.length<=6
 values:p.values.length<=3
 aeb:p.rules.length<=8
 init:dO p.initial p.states.length=0
 start:p.initial≠[]
 rule: ∀ i,i<p.rules.length->gB p i=0
theorem abB{p:aP}(h:bM p=0):yT p:=by
 unfold bM at h
 obtain⟨_,h⟩:=bz (fun _=>by decide) h
 obtain⟨_,h⟩:=bz (fun _=>by decide) h
 obtain⟨h0,h⟩:=bz (fun _=>by decide) h
 obtain⟨h1,h⟩:=bz (fun _=>by decide) h
 obtain⟨_,h⟩:=bz nz h
 obtain⟨_,h⟩:=bz (fun _=>by decide) h
 obtain⟨_,h⟩:=bz (fun _=>by decide) h
 obtain⟨h2,h⟩:=bz nz h
 obtain⟨h3,h⟩:=bz nz h
 have h2':xU p=0:=by simpa using h2
 have h3':CO p=0:=by simpa using h3
 have g:=jH h2'
 simp only[vI,Bool.or_eq_false_iff,decide_eq_false_iff_not] at h1
 refine⟨?_,by omega,by omega,by omega,g _ (by simp),?_,fun i hi=>?_⟩
 ·have:(p.states.length:Int)≠0:=by simpa using h0
  omega
 ·intro e
  have:=g (bZ ((p.initial.length:Int)==0) 1) (by simp)
  rw[e] at this; exact absurd this (by decide)
 ·exact jH h3' _ (List.mem_map.2 ⟨i,by simpa using hi,rfl⟩)
theorem uJ{x:Int}{n:Nat}(h:nJ x n=false):0<=x/\x<n:=by
 simp only[nJ,Bool.or_eq_false_iff,decide_eq_false_iff_not] at h; omega
theorem CP{x:Int}{n:Nat}(h:cu x n=0):0<=x/\x<n:=by
 refine uJ ?_
 unfold cu bZ at h
 cases hb:nJ x n with
 |false=>rfl
 |true=>rw[hb] at h; exact absurd h (by decide)
theorem AX{l:List Int}{n:Nat}(h:dO l n=0):oK n l:=by
 unfold dO at h
 obtain⟨h,_⟩:=bz (fun _=>by decide) h
 rw[List.any_eq_false] at h
 exact fun q hq=>uJ (by simpa using h q hq)
theorem OB{n:Nat}: ∀ {l:List Int},pF l n=0->oK n l:=by
 intro l
 induction l with
 |nil=>intro _ q h; cases h
 |cons x r ih =>
  intro h q hq
  simp only[pF] at h
  split at h
  ·rename_i h0
   rcases List.mem_cons.1 hq with rfl|hq
   ·exact CP h0
   ·exact ih h q hq
  ·rename_i h0; exact absurd h h0
theorem U3{k:Int}(h:uz k 1=true):k=1\/k=2\/k=3:=by
 unfold uz at h
 cases h1:(k==1) with
 |true=>exact .inl (beq_iff_eq.1 h1)
 |false =>
  cases h2:(k==2) with
  |true=>exact .inr (.inl (beq_iff_eq.1 h2))
  |false =>
   cases h3:(k==3) with
   |true=>exact .inr (.inr (beq_iff_eq.1 h3))
   |false=>rw[h1,h2,h3] at h; cases hb:(k==4||k==5)<;>rw[hb] at h<;>cases h
structure Xx(n:Nat)(p:aP)(r:Rule):Prop where
 place:xE n r
 kind:r.kind=1\/r.kind=2\/r.kind=3
 aeN:oK n r.all
 ex1:r.kind≠1->r.ex=[]/\r.all=[]
 rd:nJ r.read p.values.length=false\/r.read= -1
 wr:nJ r.write p.values.length=false\/r.write= -1
theorem rP{p:aP}{v:Int}(h:jI p v=0):nJ v p.values.length=false\/v= -1:=by
 unfold jI bZ at h
 have h': ¬ (v< -1\/v>=(p.values.length:Int)):=by
  intro q
  have:(decide (v< -1)||decide (v>=(p.values.length:Int)))=true:=by simpa using q
  rw[this] at h; exact absurd h (by decide)
 by_cases e:v= -1
 ·exact .inr e
 ·left
  simp only[nJ,Bool.or_eq_false_iff,decide_eq_false_iff_not]; omega
theorem Xy{p:aP}{i:Nat}(hv:yT p)(ht:p.topology=1)(hi:i<p.rules.length):Xx p.states.length p (p.rules.getD i default):=by
 have h:=hv.rule i hi
 have hpos:=hv.pos
 simp only[gB,qK] at h
 generalize (p.rules.getD i default)=r at h ⊢
 obtain⟨_,h⟩:=bz (fun _=>by decide) h
 obtain⟨hb,h⟩:=bz (fun _=>by decide) h
 obtain⟨he,h⟩:=bz nz h
 rw[Hg,Bool.or_eq_false_iff] at he
 rw[ht,Bool.or_eq_false_iff] at hb
 have hk:=U3 (show uz r.kind 1=true by simpa using hb.1)
 have hu:lX r 1=false:=by rw[zW (by omega)]; exact hb.2
 have hun:=KI hu
 have hpf:r.kind≠2->r.kind≠5->r.gQ=0/\r.BL=0:=by
  intro k1 k2
  simp only[lX,TQ,Bool.or_eq_false_iff] at hu
  have h3:=hu.2.2.1
  simp only[beq_eq_false_iff_ne.2 k1,beq_eq_false_iff_ne.2 k2,Bool.not_false,Bool.true_and,Bool.or_eq_false_iff] at h3
  exact⟨QY h3.1,QY h3.2⟩
 have h00:(0:Int)<=0/\(0:Int)<p.states.length:=⟨by omega,by omega⟩
 have pn:oK p.states.length []:=fun q hq=>by cases hq
 rcases hk with e|e|e
 ·rw[e] at h
  have g:=jH h
  have⟨a,b⟩:=hpf (by omega) (by omega)
  exact⟨⟨uJ he.1,uJ he.2,by rw[a]; exact h00,by rw[b]; exact h00,fun q=>by omega,AX (g (dO r.ex p.states.length) (by simp))⟩,.inl e,AX (g (dO r.all p.states.length) (by simp)),fun q=>absurd e q,rP (g (jI p r.read) (by simp)),rP (g (jI p r.write) (by simp))⟩
 ·rw[e] at h
  have g:=jH h
  obtain⟨_,u1,u2,_⟩:=hun.1 (by omega)
  exact⟨⟨uJ he.1,uJ he.2,CP (g (cu r.gQ p.states.length) (by simp)),CP (g (cu r.BL p.states.length) (by simp)),fun q=>by omega,by rw[u1]; exact pn⟩,.inr (.inl e),by rw[u2]; exact pn,fun _=>⟨u1,u2⟩,rP (g (jI p r.read) (by simp)),rP (g (jI p r.write) (by simp))⟩
 ·rw[e] at h
  have g:=jH h
  have⟨a,b⟩:=hpf (by omega) (by omega)
  obtain⟨_,u1,u2,_⟩:=hun.1 (by omega)
  have hr:=g (DZ r.response p.states.length) (by simp)
  unfold DZ at hr
  obtain⟨r1,r2⟩:=bz (fun _=>by decide) hr
  exact⟨⟨uJ he.1,uJ he.2,by rw[a]; exact h00,by rw[b]; exact h00,fun _=>⟨by have q9:(r.response.length:Int)=p.states.length:=(by simpa using r1); omega,OB r2⟩,by rw[u1]; exact pn⟩,.inr (.inr e),by rw[u2]; exact pn,fun _=>⟨u1,u2⟩,rP (g (jI p r.read) (by simp)),rP (g (jI p r.write) (by simp))⟩
theorem Fj{p:aP}(h:uj p=true):p.topology=1:=by
 simp only[uj,Bool.and_eq_true,beq_iff_eq] at h; exact h.1.1.1
structure aeO(p:aP)(e:Elem):Prop where
 valid:yT p
 plain:uj p=true
 len:e.counts.length=p.states.length
 nums:yO e.counts
 val:0<=e.value/\e.value<max 1 (p.values.length:Int)
theorem Fp{b:Bool}{n:Int}(h:bZ b n=0)(hn:n≠0):b=false:=by
 cases b with
 |false=>rfl
 |true=>exact absurd h hn
theorem MG{x:Int}:Fq x=true↔0<=x/\x<=1048576:=by simp[Fq]
theorem Xz{p:aP}{e:Elem}(h:xW p e=false):e.counts.length=p.states.length/\yO e.counts/\0<=e.value/\e.value<max 1 (p.values.length:Int):=by
 simp only[xW,Bool.or_eq_false_iff,decide_eq_false_iff_not] at h
 obtain⟨⟨⟨h1,h2⟩,h3⟩,h4⟩:=h
 refine⟨?_,fun x hx=>?_,by omega,by omega⟩
 ·have:(e.counts.length:Int)=p.states.length:=by simpa using h1
  omega
 ·have:e.counts.all Fq=true:=by simpa using h2
  exact MG.1 (List.all_eq_true.1 this x hx)
theorem iq{α:Type}{c:Bool}{a b:Option α}{x:α}(h:(bif c then a else b)=some x):a=some x\/b=some x:=by
 cases c with
 |true=>exact .inl h
 |false=>exact .inr h
theorem KJ{c:List Int}{i d:Int}:(gy c i d).length=c.length:=by simp[gy]
theorem rQ{c:List Int}{i:Int}:(aQ c i).length=c.length:=by simp[aQ]
theorem KL{r:Rule}{e x:Elem}(h:bF r e=some x):x.counts.length=e.counts.length:=by
 simp only[bF] at h
 have out: ∀ {c:List Int} {v:Int},c.length=e.counts.length->some (⟨v,gy c r.to 1⟩:Elem)=some x->x.counts.length=e.counts.length:=by
  intro c v hc h; cases h; rw[KJ,hc]
 rcases iq h with h|h
 ·cases h
 rcases iq h with h|h
 ·rcases iq h with h|h
  ·cases h
  ·exact out rQ h
 rcases iq h with h|h
 ·rcases iq h with h|h
  ·cases h
  ·exact out (by rw[KJ,rQ,rQ]) h
 rcases iq h with h|h
 ·exact out (by rw[vG,rQ]) h
 ·exact out rQ h
structure kC(q:Prop'):Prop where
 start:q.start.length<2^30
 bad:q.bad.length<2^30
 adjacent:q.adjacent.length<2^30
 goal:q.goal.length<2^30
 cnt: ∀ i,(q.bad.getD i default).states.length<2^30
def oO(c:Cnt):Bool:=((c.states.length:Int)==0||decide (c.least<1))||decide (c.least>3)
def JZ(n:Int)(c:Cnt):Int:=aS [dO c.states n,bZ (oO c) 1]
def uK(l:List Cnt)(n:Int):Int:=aS (l.map (JZ n))
def GV(p:aP)(l:List Int):Int:=bif (l.length:Int)==0 then 0 else bif p.topology==1 then 6 else bif (l.length:Int) !=2 then 1 else aS [cu (l.getD 0 0) p.states.length,cu (l.getD 1 0) p.states.length]
def uM(q:Prop'):Bool:=((q.kind==1)&&decide ((q.goal.length:Int)>0))||(!(q.kind==1)&&(decide ((q.bad.length:Int)>0)||decide ((q.adjacent.length:Int)>0)))
def jv(p:aP)(q:Prop'):Int :=
 let n:Int:=p.states.length
 bif bM p !=0 then bM p else bif !(validName q.name) then 2 else bif !(q.kind==1)&&q.kind !=2 then 1 else bif uM q then 1 else
 bif dO q.start n !=0 then dO q.start n else bif q.start.any (fun x=> !(rF p.initial x)) then 5 else
 bif !(q.kind==1) then aS [dO q.goal n,bZ ((q.goal.length:Int)==0) 1] else
 aS [bZ (((q.bad.length:Int)==0)&&((q.adjacent.length:Int)==0)) 1,bZ (decide ((q.bad.length:Int)>3)) 4,uK q.bad n,GV p q.adjacent]
theorem S.mF(l:List Cnt)(n:Int)(f:Bool)(hl:l.length<2^30)(hs: ∀ i,(l.getD i default).states.length<2^30):aj Tryz.prog 131 [.row 3 f (.cnts l),.int n] (.int (uK l n)):=by
 refine aj.of Bd.mF (by simp) rfl rfl ?_
 conv=>whnf
 refine aC.same [1,8,9] (fun i:Nat=>[(10,.int i)]) (fun i=>i<=l.length/\uK l n=aS ((l.drop i).map (JZ n))) (fun i=>l.length-i) 0 rfl (by decide) rfl (fun _=>rfl) ⟨by omega,by simp[uK]⟩ ⟨⟨_,rfl,rfl⟩,trivial⟩ ?_
 conv=>whnf
 refine⟨rfl,?_⟩
 rintro i ⟨hi,hall⟩
 conv=>whnf
 refine⟨fun h3=>?_,fun h3=>?_⟩
 ·have hi':i<l.length:=by simpa using h3
  rw[bg default hi',List.map_cons] at hall
  simp only[aS] at hall
  have hc:=hs i
  conv=>whnf
  refine .mk (by simp only[Rw.rng] at *; omega) ?_
  conv=>whnf
  refine ah.pure (S.dU (l.getD i default).states n false (by omega)) rfl ?_
  conv=>whnf
  repeat(refine VC.mk (by first|exact id|(intro h; rw[h]; rfl)) ?_; conv=>whnf)
  refine ah.pure (S.bT (oO (l.getD i default)) 1) rfl ?_
  conv=>whnf
  refine ah.pure (S.bP [dO (l.getD i default).states n,bZ (oO (l.getD i default)) 1] true (show 2<2^40 by decide)) rfl ?_
  conv=>whnf
  refine⟨fun h4=>?_,fun h4=>?_⟩
  ·conv=>whnf
   refine ak.int ?_
   have h4':JZ n (l.getD i default)≠0:=nz h4
   rw[hall,if_neg h4']; rfl
  ·conv=>whnf
   refine .mk (by simp only[okI] at *; omega) ?_
   conv=>whnf
   have h4':JZ n (l.getD i default)=0:=uQ h4
   rw[if_pos h4'] at hall
   refine⟨i+1,⟨by omega,hall⟩,by omega,⟨⟨_,rfl,rfl⟩,trivial⟩,?_,rfl⟩
   repeat' (first|exact trivial|exact⟨_,rfl,rfl⟩|constructor)
 ·have hi':l.length<=i:=by simpa using h3
  rw[List.drop_eq_nil_of_le hi'] at hall
  conv=>whnf
  exact ak.int (by rw[hall]; rfl)
theorem S.kL(p:aP)(l:List Int)(f:Bool)(_hl:l.length<2^30):aj Tryz.prog 132 [.dat (.bW p),.row 0 f (.ints l)] (.int (GV p l)):=by
 refine aj.of Bd.kL (by simp) rfl rfl ?_
 conv=>whnf
 refine⟨fun h1=>?_,fun h1=>?_⟩
 ·conv=>whnf
  exact ak.int (by rw[GV,h1]; rfl)
 conv=>whnf
 refine⟨fun h2=>?_,fun h2=>?_⟩
 ·conv=>whnf
  exact ak.int (by rw[GV,h1,h2]; rfl)
 conv=>whnf
 refine⟨fun h3=>?_,fun h3=>?_⟩
 ·conv=>whnf
  exact ak.int (by rw[GV,h1,h2,h3]; rfl)
 have h4:l.length=2:=by
  have:(l.length:Int)=2:=by simpa using h3
  omega
 conv=>whnf
 repeat(refine VC.mk (by simp only[Rw.rng] at *; omega) ?_; conv=>whnf)
 refine ah.pure (S.bV (l.getD 0 0) p.states.length) rfl ?_
 conv=>whnf
 refine ah.pure (S.bV (l.getD 1 0) p.states.length) rfl ?_
 conv=>whnf
 refine ah.pure (S.bP [cu (l.getD 0 0) p.states.length,cu (l.getD 1 0) p.states.length] true (show 2<2^40 by decide)) rfl ?_
 conv=>whnf
 exact ak.int (by rw[GV,h1,h2,h3]; rfl)
theorem S.dQ(p:aP)(q:Prop')(hp:bH p)(hq:kC q):aj Tryz.prog 84 [.dat (.bW p),.dat (.prop q)] (.int (jv p q)):=by
 have g1:=hp.states; have g5:=hp.initial
 have q1:=hq.start; have q2:=hq.bad; have q3:=hq.adjacent; have q4:=hq.goal
 refine aj.of Bd.dQ (by simp) rfl rfl ?_
 conv=>whnf
 refine ah.pure (S.iT p hp) rfl ?_
 conv=>whnf
 refine⟨fun h1=>?_,fun h1=>?_⟩
 ·conv=>whnf
  exact ak.int (by rw[jv,h1]; rfl)
 conv=>whnf
 refine ah.pure (S.fO q.name) rfl ?_
 conv=>whnf
 refine⟨fun h2=>?_,fun h2=>?_⟩
 ·conv=>whnf
  exact ak.int (by rw[jv,h1,h2]; rfl)
 conv=>whnf
 repeat(refine VC.mk id ?_; conv=>whnf)
 refine⟨fun h3=>?_,fun h3=>?_⟩
 ·conv=>whnf
  exact ak.int (by rw[jv,h1,h2,h3]; rfl)
 conv=>whnf
 repeat(refine VC.mk id ?_; conv=>whnf)
 refine⟨fun h4=>?_,fun h4=>?_⟩
 ·conv=>whnf
  refine Fork.mk (fun _=>?_) (fun q=>absurd (q.symm.trans (h4)) Bool.false_ne_true)
  conv=>whnf
  exact ak.int (by rw[jv,h1,h2,h3,show uM q=true by rw[uM]; erw [h4]; rfl]; rfl)
 conv=>whnf
 repeat(refine VC.mk (by first|exact id|(intro h; simp_all; done)) ?_; conv=>whnf)
 refine⟨fun h5=>?_,fun h5=>?_⟩
 ·conv=>whnf
  exact ak.int (by rw[jv,h1,h2,h3,show uM q=true by rw[uM]; erw [h5]; simp]; rfl)
 have h45:uM q=false:=by rw[uM]; erw [h4,h5]; rfl
 conv=>whnf
 refine ah.pure (S.dU q.start p.states.length false (by omega)) rfl ?_
 conv=>whnf
 refine⟨fun h6=>?_,fun h6=>?_⟩
 ·conv=>whnf
  exact ak.int (by rw[jv,h1,h2,h3,h45,h6]; rfl)
 conv=>whnf
 refine aC.same [2,3,6,7,65,66] (fun i:Nat=>[(67,.int i)]) (fun i=>i<=q.start.length/\(q.start.take i).any (fun x=> !(rF p.initial x))=false) (fun i=>q.start.length-i) 0 rfl (by decide) rfl (fun _=>rfl) ⟨by omega,by simp⟩ ⟨⟨_,rfl,rfl⟩,trivial⟩ ?_
 conv=>whnf
 refine⟨rfl,?_⟩
 rintro i ⟨hi,hall⟩
 conv=>whnf
 refine⟨fun h7=>?_,fun h7=>?_⟩
 ·have hi':i<q.start.length:=by simpa using h7
  conv=>whnf
  refine .mk (by simp only[Rw.rng] at *; omega) ?_
  conv=>whnf
  refine ah.pure (S.slices_Contains_int p.initial (q.start.getD i 0) false (by omega)) rfl ?_
  conv=>whnf
  refine⟨fun h8=>?_,fun h8=>?_⟩
  ·conv=>whnf
   exact ak.int (by rw[jv,h1,h2,h3,h45,h6,dS (d:=0) hi' h8]; rfl)
  ·conv=>whnf
   refine .mk (by simp only[okI] at *; omega) ?_
   conv=>whnf
   refine⟨i+1,⟨by omega,?_⟩,by omega,⟨⟨_,rfl,rfl⟩,trivial⟩,?_,rfl⟩
   ·rw[fU (d:=0) hi' hall]; exact h8
   ·repeat' (first|exact trivial|exact⟨_,rfl,rfl⟩|constructor)
 have hi':q.start.length<=i:=by simpa using h7
 rw[List.take_of_length_le hi'] at hall
 conv=>whnf
 refine⟨fun h8=>?_,fun h8=>?_⟩
 ·conv=>whnf
  refine ah.pure (S.dU q.goal p.states.length false (by omega)) rfl ?_
  conv=>whnf
  refine ah.pure (S.bT ((q.goal.length:Int)==0) 1) rfl ?_
  conv=>whnf
  refine ah.pure (S.bP [dO q.goal p.states.length,bZ ((q.goal.length:Int)==0) 1] true (show 2<2^40 by decide)) rfl ?_
  conv=>whnf
  exact ak.int (by rw[jv,h1,h2,h3,h45,h6,hall,h8]; rfl)
 conv=>whnf
 repeat(refine VC.mk id ?_; conv=>whnf)
 refine ah.pure (S.bT (((q.bad.length:Int)==0)&&((q.adjacent.length:Int)==0)) 1) rfl ?_
 conv=>whnf
 refine ah.pure (S.bT (decide ((q.bad.length:Int)>3)) 4) rfl ?_
 conv=>whnf
 refine ah.pure (S.mF q.bad p.states.length false q2 hq.cnt) rfl ?_
 conv=>whnf
 refine ah.pure (S.kL p q.adjacent false q3) rfl ?_
 conv=>whnf
 refine ah.pure (S.bP [bZ (((q.bad.length:Int)==0)&&((q.adjacent.length:Int)==0)) 1,bZ (decide ((q.bad.length:Int)>3)) 4,uK q.bad p.states.length,GV p q.adjacent] true (show 4<2^40 by decide)) rfl ?_
 conv=>whnf
 exact ak.int (by rw[jv,h1,h2,h3,h45,h6,hall,h8]; rfl)
theorem S.D5(l:List Int)(s:Int)(f:Bool)(hl:l.length<2^40):aj Tryz.prog 136 [.row 0 f (.ints l),.int s] (.bool (rF l s)):=by
 refine aj.of Bd.D5 (by simp) rfl rfl ?_
 conv=>whnf
 refine aC.same [0,1] (fun i:Nat=>[(5,.int i)]) (fun i=>i<=l.length/\(l.take i).any (fun x=>s==x)=false) (fun i=>l.length-i) 0 rfl (by decide) rfl (fun _=>rfl) ⟨by omega,by simp⟩ ⟨⟨_,rfl,rfl⟩,trivial⟩ ?_
 conv=>whnf
 refine⟨rfl,?_⟩
 rintro i ⟨hi,hall⟩
 conv=>whnf
 refine⟨fun h3=>?_,fun h3=>?_⟩
 ·have hi':i<l.length:=by simpa using h3
  conv=>whnf
  refine .mk (by simp only[Rw.rng] at *; omega) ?_
  conv=>whnf
  refine⟨fun h4=>?_,fun h4=>?_⟩
  ·have h4':(s==l.getD i 0)=true:=by rw[show(s==l.getD i 0)=(l.getD i 0==s) from Bool.beq_comm]; exact h4
   conv=>whnf
   exact ak.bool (dS (d:=0) hi' h4')
  ·have h4':(s==l.getD i 0)=false:=by rw[show(s==l.getD i 0)=(l.getD i 0==s) from Bool.beq_comm]; exact h4
   conv=>whnf
   refine .mk (by simp only[okI] at *; omega) ?_
   conv=>whnf
   refine⟨i+1,⟨by omega,?_⟩,by omega,⟨⟨_,rfl,rfl⟩,trivial⟩,?_,rfl⟩
   ·rw[fU (d:=0) hi' hall]; exact h4'
   ·repeat' (first|exact trivial|exact⟨_,rfl,rfl⟩|constructor)
 ·have hi':l.length<=i:=by simpa using h3
  rw[List.take_of_length_le hi'] at hall
  conv=>whnf
  exact ak.bool hall
theorem ZG{p:aP}{l:List Int}(h1:(decide ((l.length:Int)>0)&&(p.topology==1))=false)(h2:((l.length:Int) !=0&&(l.length:Int) !=2)=false):GV p l=bif l.any (fun x=>nJ x p.states.length) then 5 else 0:=by
 unfold GV
 rcases l with _|⟨a,_|⟨b,_|⟨c,r⟩⟩⟩
 ·rfl
 ·simp at h2
 ·have ht:(p.topology==1)=false:=by simpa using h1
  rw[ht]
  simp only[List.length_cons,List.length_nil,List.getD_cons_zero,List.getD_cons_succ,List.any_cons,List.any_nil,Bool.or_false,cu]
  cases nJ a p.states.length<;>cases nJ b p.states.length<;>rfl
 ·simp at h2; omega
theorem QZ{c:Cnt}:oO c=((c.states.length:Int)==0|| !(gG c.least 1 3)):=by
 rw[oO,og,Bool.or_assoc]
theorem S.fV(p:aP)(q:Prop')(hp:bH p)(hq:kC q):aj Tryz.prog 85 [.dat (.bW p),.dat (.prop q)] (.int (jv p q)):=by
 have g1:=hp.states; have g5:=hp.initial
 have q1:=hq.start; have q2:=hq.bad; have q3:=hq.adjacent; have q4:=hq.goal
 refine aj.of Bd.fV (by simp) rfl rfl ?_
 conv=>whnf
 refine ah.pure (S.oh p hp) rfl ?_
 conv=>whnf
 refine⟨fun h1=>?_,fun h1=>?_⟩
 ·conv=>whnf
  exact ak.int (by rw[jv,h1]; rfl)
 conv=>whnf
 refine ah.pure (S.jw q.name) rfl ?_
 conv=>whnf
 refine⟨fun h2=>?_,fun h2=>?_⟩
 ·conv=>whnf
  exact ak.int (by rw[jv,h1,h2]; rfl)
 conv=>whnf
 repeat(refine VC.mk id ?_; conv=>whnf)
 refine⟨fun h3=>?_,fun h3=>?_⟩
 ·replace h3:(!(q.kind==1)&&q.kind !=2)=true:=h3
  conv=>whnf
  exact ak.int (by rw[jv,h1,h2,h3]; rfl)
 replace h3:(!(q.kind==1)&&q.kind !=2)=false:=h3
 have k2:(q.kind==2)= !(q.kind==1):=by
  cases e:(q.kind==1) with
  |true=>rw[beq_iff_eq.1 e]; rfl
  |false=>rw[e] at h3; simpa using h3
 conv=>whnf
 repeat(refine VC.mk (by first|exact id|(intro h; rw[h]; rfl)|(intro h; simp_all; done)) ?_; conv=>whnf)
 refine⟨fun h4=>?_,fun h4=>?_⟩
 ·rw[k2] at h4
  conv=>whnf
  exact ak.int (by rw[jv,h1,h2,h3,show uM q=true from h4]; rfl)
 rw[k2] at h4
 replace h4:uM q=false:=h4
 conv=>whnf
 refine ah.pure (S.iI q.start p.states.length false (by omega) (by omega)) rfl ?_
 conv=>whnf
 refine⟨fun h6=>?_,fun h6=>?_⟩
 ·conv=>whnf
  exact ak.int (by rw[jv,h1,h2,h3,h4,h6]; rfl)
 conv=>whnf
 refine aC.same [2,3,6] (fun i:Nat=>[(8,.int i)]) (fun i=>i<=q.start.length/\(q.start.take i).any (fun x=> !(rF p.initial x))=false) (fun i=>q.start.length-i) 0 rfl (by decide) rfl (fun _=>rfl) ⟨by omega,by simp⟩ ⟨⟨_,rfl,rfl⟩,trivial⟩ ?_
 conv=>whnf
 refine⟨rfl,?_⟩
 rintro i ⟨hi,hall⟩
 conv=>whnf
 refine⟨fun h7=>?_,fun h7=>?_⟩
 ·have hi':i<q.start.length:=by simpa using h7
  conv=>whnf
  refine .mk (by simp only[Rw.rng] at *; omega) ?_
  conv=>whnf
  refine ah.pure (S.D5 p.initial (q.start.getD i 0) false (by omega)) rfl ?_
  conv=>whnf
  refine⟨fun h8=>?_,fun h8=>?_⟩
  ·conv=>whnf
   exact ak.int (by rw[jv,h1,h2,h3,h4,h6,dS (d:=0) hi' h8]; rfl)
  ·conv=>whnf
   refine .mk (by simp only[okI] at *; omega) ?_
   conv=>whnf
   refine⟨i+1,⟨by omega,?_⟩,by omega,⟨⟨_,rfl,rfl⟩,trivial⟩,?_,rfl⟩
   ·rw[fU (d:=0) hi' hall]; exact h8
   ·repeat' (first|exact trivial|exact⟨_,rfl,rfl⟩|constructor)
 have hi':q.start.length<=i:=by simpa using h7
 rw[List.take_of_length_le hi'] at hall
 clear h7 hi'
 conv=>whnf
 refine⟨fun h8=>?_,fun h8=>?_⟩
 ·have h8':(!(q.kind==1))=true:=by rw[<- k2]; exact h8
  have hS:jv p q=aS [dO q.goal p.states.length,bZ ((q.goal.length:Int)==0) 1]:=by rw[jv,h1,h2,h3,h4,h6,hall,h8']; rfl
  rw[hS]
  conv=>whnf
  refine ah.pure (S.iI q.goal p.states.length false (by omega) (by omega)) rfl ?_
  conv=>whnf
  refine⟨fun h9=>?_,fun h9=>?_⟩
  ·conv=>whnf
   exact ak.int (fN (nz h9))
  rw[show dO q.goal p.states.length=0 from uQ h9,f0]
  conv=>whnf
  refine⟨fun h10=>?_,fun h10=>?_⟩
  ·conv=>whnf
   exact ak.int (by rw[h10]; rfl)
  ·conv=>whnf
   exact ak.int (by rw[h10]; rfl)
 have h8':(!(q.kind==1))=false:=by rw[<- k2]; exact h8
 have hS:jv p q=aS [bZ (((q.bad.length:Int)==0)&&((q.adjacent.length:Int)==0)) 1,bZ (decide ((q.bad.length:Int)>3)) 4,uK q.bad p.states.length,GV p q.adjacent]:=by rw[jv,h1,h2,h3,h4,h6,hall,h8']; rfl
 rw[hS]
 conv=>whnf
 repeat(refine VC.mk id ?_; conv=>whnf)
 refine⟨fun h9=>?_,fun h9=>?_⟩
 ·conv=>whnf
  exact ak.int (by rw[h9]; rfl)
 rw[h9,TR]
 conv=>whnf
 refine⟨fun h10=>?_,fun h10=>?_⟩
 ·conv=>whnf
  exact ak.int (by rw[show decide ((q.bad.length:Int)>3)=true from h10]; rfl)
 rw[show decide ((q.bad.length:Int)>3)=false from h10,TR]
 conv=>whnf
 refine aC.same [2,3,6] (fun i:Nat=>[(10,.int i)]) (fun i=>i<=q.bad.length/\uK q.bad p.states.length=aS ((q.bad.drop i).map (JZ p.states.length))) (fun i=>q.bad.length-i) 0 rfl (by decide) rfl (fun _=>rfl) ⟨by omega,by simp[uK]⟩ ⟨⟨_,rfl,rfl⟩,trivial⟩ ?_
 conv=>whnf
 refine⟨rfl,?_⟩
 rintro j ⟨hj,hcnt⟩
 conv=>whnf
 refine⟨fun h11=>?_,fun h11=>?_⟩
 ·have hj':j<q.bad.length:=by simpa using h11
  rw[bg default hj',List.map_cons] at hcnt
  simp only[aS] at hcnt
  have hc:=hq.cnt j
  conv=>whnf
  refine .mk (by simp only[Rw.rng] at *; omega) ?_
  conv=>whnf
  refine ah.pure (S.iI (q.bad.getD j default).states p.states.length false (by omega) (by omega)) rfl ?_
  conv=>whnf
  refine⟨fun h12=>?_,fun h12=>?_⟩
  ·conv=>whnf
   have e1:JZ p.states.length (q.bad.getD j default)=dO (q.bad.getD j default).states p.states.length:=fN (nz h12)
   rw[e1,if_neg (nz h12)] at hcnt
   exact ak.int (by rw[hcnt,fN (nz h12)])
  have XA:dO (q.bad.getD j default).states p.states.length=0:=uQ h12
  have e1:JZ p.states.length (q.bad.getD j default)=aS [bZ (oO (q.bad.getD j default)) 1]:=by rw[JZ,XA,f0]
  rw[e1,QZ] at hcnt
  conv=>whnf
  repeat(refine VC.mk (by first|exact id|(intro h; (repeat' apply And.intro)<;>first|exact h|omega|(simp only[Rw.kK]; omega)|(simp only[Rw.rng]; omega))|(simp only[Rw.rng] at *; omega)) ?_; conv=>whnf)
  refine ah.cO (fun _=>S.bC (q.bad.getD j default).least 1 3) rfl ?_
  conv=>whnf
  repeat(refine VC.mk (by first|exact id|(intro h; rw[h]; rfl)) ?_; conv=>whnf)
  refine⟨fun h13=>?_,fun h13=>?_⟩
  ·replace h13:(((q.bad.getD j default).states.length:Int)==0|| !(gG (q.bad.getD j default).least 1 3))=true:=h13
   rw[h13] at hcnt
   conv=>whnf
   exact ak.int (by rw[hcnt]; rfl)
  ·replace h13:(((q.bad.getD j default).states.length:Int)==0|| !(gG (q.bad.getD j default).least 1 3))=false:=h13
   rw[h13] at hcnt
   conv=>whnf
   refine .mk (by simp only[okI] at *; omega) ?_
   conv=>whnf
   refine⟨j+1,⟨by omega,hcnt⟩,by omega,⟨⟨_,rfl,rfl⟩,trivial⟩,?_,rfl⟩
   repeat' (first|exact trivial|exact⟨_,rfl,rfl⟩|constructor)
 have hj':q.bad.length<=j:=by simpa using h11
 rw[List.drop_eq_nil_of_le hj'] at hcnt
 rw[hcnt,show aS (List.map (JZ p.states.length) [])=0 from rfl,f0]
 conv=>whnf
 repeat(refine VC.mk id ?_; conv=>whnf)
 refine⟨fun h12=>?_,fun h12=>?_⟩
 ·replace h12:(decide ((q.adjacent.length:Int)>0)&&(p.topology==1))=true:=h12
  conv=>whnf
  rw[Bool.and_eq_true] at h12
  have:((q.adjacent.length:Int)==0)=false:=beq_eq_false_iff_ne.2 (by have:=of_decide_eq_true h12.1; omega)
  exact ak.int (by rw[GV,this,h12.2]; rfl)
 replace h12:(decide ((q.adjacent.length:Int)>0)&&(p.topology==1))=false:=h12
 conv=>whnf
 repeat(refine VC.mk id ?_; conv=>whnf)
 refine⟨fun h13=>?_,fun h13=>?_⟩
 ·replace h13:((q.adjacent.length:Int) !=0&&(q.adjacent.length:Int) !=2)=true:=h13
  conv=>whnf
  rw[Bool.and_eq_true] at h13
  have e0:((q.adjacent.length:Int)==0)=false:=by simpa using h13.1
  have e1:(p.topology==1)=false:=by
   rw[Bool.and_eq_false_iff] at h12
   rcases h12 with h12|h12
   ·have:=of_decide_eq_false h12
    have:(q.adjacent.length:Int)≠0:=by simpa using e0
    omega
   ·exact h12
  exact ak.int (by rw[GV,e0,e1,h13.2]; rfl)
 replace h13:((q.adjacent.length:Int) !=0&&(q.adjacent.length:Int) !=2)=false:=h13
 rw[ZG h12 h13]
 conv=>whnf
 refine aC.same [2,3,6] (fun i:Nat=>[(12,.int i)]) (fun i=>i<=q.adjacent.length/\(q.adjacent.take i).any (fun x=>nJ x p.states.length)=false) (fun i=>q.adjacent.length-i) 0 rfl (by decide) rfl (fun _=>rfl) ⟨by omega,by simp⟩ ⟨⟨_,rfl,rfl⟩,trivial⟩ ?_
 conv=>whnf
 refine⟨rfl,?_⟩
 rintro k ⟨hk,abC⟩
 conv=>whnf
 refine⟨fun h14=>?_,fun h14=>?_⟩
 ·have hk':k<q.adjacent.length:=by simpa using h14
  conv=>whnf
  repeat(refine VC.mk (by simp only[okI,Rw.rng] at *; omega) ?_; conv=>whnf)
  refine ah.pure (S.bC (q.adjacent.getD k 0) 0 (p.states.length-1)) rfl ?_
  conv=>whnf
  refine⟨fun h15=>?_,fun h15=>?_⟩
  ·replace h15:(!(gG (q.adjacent.getD k 0) 0 (p.states.length-1)))=true:=h15
   rw[vJ] at h15
   conv=>whnf
   exact ak.int (by rw[dS (d:=0) hk' h15]; rfl)
  ·replace h15:(!(gG (q.adjacent.getD k 0) 0 (p.states.length-1)))=false:=h15
   rw[vJ] at h15
   conv=>whnf
   refine .mk (by simp only[okI] at *; omega) ?_
   conv=>whnf
   refine⟨k+1,⟨by omega,?_⟩,by omega,⟨⟨_,rfl,rfl⟩,trivial⟩,?_,rfl⟩
   ·rw[fU (d:=0) hk' abC]; exact h15
   ·repeat' (first|exact trivial|exact⟨_,rfl,rfl⟩|constructor)
 have hk':q.adjacent.length<=k:=by simpa using h14
 rw[List.take_of_length_le hk'] at abC
 conv=>whnf
 exact ak.int (by rw[abC]; rfl)
theorem ak.ZH{h:Hz}{j:Nat}{l:List Int}(q:h.get j=some (iR l)):ak (.row 0 false (.ints l)) (.own j) h:=⟨zU trivial q⟩
theorem ak.aec{h:Hz}{k k':Nat}{r:Rw}(e:r.len=0):ak (.row k false r) (.row k' true .nil) h:=⟨by
 have:r.aX=[]:=List.eq_nil_of_length_eq_zero (by rw[Rw.fB]; exact e)
 show T.sub (fun _=>True) h.au (.sl k false r.aX) (.sl k' true [])
 rw[this]; simp[T.sub]⟩
theorem S.KN(l:List Int)(f:Bool)(hl:l.length<2^30):aj Tryz.prog 112 [.row 0 f (.ints l)] (.row 0 false (.ints l)):=by
 refine aj.of Bd.iw (by simp) rfl rfl ?_
 conv=>whnf
 refine U4.mk (fun hz=>?_) ?_
 ·conv=>whnf
  refine Fork.mk (fun _=>?_) (fun q=>absurd (q.symm.trans ((rfl:true=true))) Bool.false_ne_true)
  conv=>whnf
  exact ak.aec hz
 ·conv=>whnf
  refine Fork.mk (fun q=>absurd (q.symm.trans ((rfl:false=false))).symm Bool.false_ne_true) (fun _=>?_)
  conv=>whnf
  refine .mk (by simp only[kJ,jG,Rw.len]; omega) ?_
  conv=>whnf
  repeat(refine VC.mk (by simp only[kJ,jG,Rw.len]; omega) ?_; conv=>whnf)
  exact ak.ZH rfl
theorem S.ou(l:List Int)(f:Bool)(hl:l.length<2^30):aj Tryz.prog 166 [.row 0 f (.ints l)] (.row 0 false (.ints l)):=by
 refine aj.of Bd.ou (by simp) rfl rfl ?_
 conv=>whnf
 refine .mk (by simp only[kJ,jG,Rw.len]; omega) ?_
 conv=>whnf
 exact ak.ZH rfl
def jk(p:aP)(q:Prop'):List Int:=bif decide ((q.start.length:Int)>0) then q.start else p.initial
theorem Q5{p:aP}{q:Prop'}(h:jv p q=0):bM p=0:=by
 unfold jv at h
 obtain⟨h1,_⟩:=bz nz h
 exact uQ h1
theorem S.mG(p:aP)(q:Prop')(hp:bH p)(hq:kC q)(hv:jv p q=0):aj Tryz.prog 97 [.dat (.bW p),.dat (.prop q)] (.fA [.row 0 false (.ints (jk p q)),.int 0]):=by
 have g5:=hp.initial; have q1:=hq.start
 refine aj.of Bd.mG (by simp) rfl rfl ?_
 conv=>whnf
 refine ah.pure (S.dQ p q hp hq) rfl ?_
 conv=>whnf
 refine Fork.mk (fun q=>absurd (q.symm.trans ((by simp[hv]))).symm Bool.false_ne_true) (fun _=>?_)
 conv=>whnf
 refine⟨fun h2=>?_,fun h2=>?_⟩
 ·conv=>whnf
  refine ah.pure (S.KN q.start false q1) rfl ?_
  conv=>whnf
  exact ak.eqv (by rw[jk,show decide ((q.start.length:Int)>0)=true from h2]; rfl)
 ·conv=>whnf
  refine ah.pure (S.KN p.initial false g5) rfl ?_
  conv=>whnf
  exact ak.eqv (by rw[jk,show decide ((q.start.length:Int)>0)=false from h2]; rfl)
theorem S.mJ(p:aP)(q:Prop')(hp:bH p)(hq:kC q):aj Tryz.prog 144 [.dat (.bW p),.dat (.prop q)] (.row 0 false (.ints (jk p q))):=by
 have g5:=hp.initial; have q1:=hq.start
 refine aj.of Bd.mJ (by simp) rfl rfl ?_
 conv=>whnf
 refine⟨fun h2=>?_,fun h2=>?_⟩
 ·conv=>whnf
  refine ah.pure (S.ou q.start false q1) rfl ?_
  conv=>whnf
  exact ak.eqv (by rw[jk,show decide ((q.start.length:Int)>0)=true from h2]; rfl)
 ·conv=>whnf
  refine ah.pure (S.ou p.initial false g5) rfl ?_
  conv=>whnf
  exact ak.eqv (by rw[jk,show decide ((q.start.length:Int)>0)=false from h2]; rfl)
theorem S.vK(p:aP)(q:Prop')(hp:bH p)(hq:kC q)(hv:jv p q=0):aj Tryz.prog 101 [.dat (.bW p),.dat (.prop q)] (.fA [.row 0 false (.ints (jk p q)),.int 0]):=by
 refine aj.of Bd.vK (by simp) rfl rfl ?_
 conv=>whnf
 refine ah.pure (S.fV p q hp hq) rfl ?_
 conv=>whnf
 refine Fork.mk (fun q=>absurd (q.symm.trans ((by simp[hv]))).symm Bool.false_ne_true) (fun _=>?_)
 conv=>whnf
 refine ah.pure (S.mJ p q hp hq) rfl ?_
 conv=>whnf
 exact ak.eqv rfl
theorem KO{p:aP}{q:Prop'}(hp:bH p)(hq:kC q):(jk p q).length<2^30:=by
 unfold jk
 cases decide ((q.start.length:Int)>0)
 ·exact hp.initial
 ·exact hq.start
end Go.Proofs.YtifbibbicplneaaGreatDoor
