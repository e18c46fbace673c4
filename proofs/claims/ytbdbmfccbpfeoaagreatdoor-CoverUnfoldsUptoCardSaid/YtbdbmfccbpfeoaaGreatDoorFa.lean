/-
 A part of the proof. No condition.
-/
import Derived.Test.YtbdbmfccbpfeoaaGreatDoorRb
import Derived.Test.YtbdbmfccbpfeoaaGreatDoorLg
import Derived.Test.YtbdbmfccbpfeoaaGreatDoorKa
namespace Go.Proofs.YtbdbmfccbpfeoaaGreatDoor
open Go.Ab Go.Proofs
set_option maxRecDepth 100000
def Gn(s:Int):List Int->Nat->Int
 |[],_=> -1
 |x::r,i=>bif s==x then(i:Int) else Gn s r (i+1)
theorem aaM{s:Int}{l:List Int}:decide (0<=Gn s l 0)=l.any fun x=>s==x:=by
 have: ∀ {l:List Int} {i:Nat},0<=Gn s l i↔(l.any fun x=>s==x)=true:=by
  intro l;induction l with
  |nil=>intro i; simp[Gn]
  |cons x r ih =>
   intro i;rw[ez,cS,<- ih (i:=i+1)];show(0:Int)<=(bif s==x then(i:Int) else Gn s r (i+1))↔_;generalize (s==x)=b;cases b<;>simp
 rw[cF,ab]; exact this
theorem S.slices_Index_int(l:List Int)(s:Int)(f:Bool)(hl:l.length<2^40):aj Tryz.prog 111 [.row 0 f (.ints l),.int s] (.int (Gn s l 0)):=by
 refine aj.of Bd.nO (by simp) rfl rfl ?_;refine aF.same [0,1,6,7] (fun i:Nat=>[(8,.int i)]) (fun i=>i<=l.length/\Gn s l 0=Gn s (l.drop i) i) (fun i=>l.length-i) 0 rfl (by decide) rfl (fun _=>rfl) ⟨by omega,by simp⟩ ⟨⟨_,rfl,rfl⟩,trivial⟩ ?_;refine⟨rfl,?_⟩;rintro i ⟨hi,hall⟩;refine⟨fun h3=>?_,fun h3=>?_⟩
 ·have hi':i<l.length:=by simpa using h3
  rw[dh 0 hi'] at hall;simp only[Gn] at hall;refine .mk (by simp only[Rw.rng] at *; omega) ?_;refine⟨fun h4=>?_,fun h4=>?_⟩
  ·conv=>whnf
   refine ak.int ?_;have h4':(s==l.getD i 0)=true:=h4;rw[hall,h4']; rfl
  ·conv=>whnf
   refine .mk (by simp only[okI] at *; omega) ?_;refine⟨i+1,⟨by omega,?_⟩,by omega,⟨⟨_,rfl,rfl⟩,trivial⟩,?_,rfl⟩
   ·have h4':(s==l.getD i 0)=false:=h4;rw[hall,h4']; rfl
   ·repeat' (first|exact trivial|exact⟨_,rfl,rfl⟩|constructor)
 ·conv=>whnf
  refine ak.int ?_;have hi':l.length<=i:=by simpa using h3
  rw[hall,cD hi']; rfl
def Jv(l:List Int)(s:Int):Bool:=l.any fun x=>s==x
theorem S.slices_Contains_int(l:List Int)(s:Int)(f:Bool)(hl:l.length<2^40):aj Tryz.prog 82 [.row 0 f (.ints l),.int s] (.bool (Jv l s)):=by
 refine aj.of Bd.kT (by simp) rfl rfl ?_;refine ah.pure (S.slices_Index_int l s f hl) rfl ?_;exact ak.bool aaM.symm
def xJ(n:Nat)(l:List Int):Prop:= ∀ q∈l,0<=q/\q<n
def agq(c l:List Int):Bool:=(List.range c.length).any fun i=>decide (c.getD i 0>0)&& !(Jv l i)
def AV(ex c:List Int)(i:Nat):Bool:=((ex.length:Int)==0)||(List.range i).any fun j=> !(c.getD j 0==0)&&Jv ex j
def CG(al c:List Int)(i:Nat):Bool:=(List.range i).any fun j=> !(c.getD j 0==0)&&(decide ((al.length:Int)>0)&& !(Jv al j))
def qU(r:Rule)(c:List Int):Bool:= !(CG r.all c c.length)&&AV r.ex c c.length
theorem KT{ex c:List Int}{i:Nat}:AV ex c (i+1)=(AV ex c i||(!(c.getD i 0==0)&&Jv ex i)):=by
 simp only[AV,ce,dz,ez,List.any_nil,fk,Bool.or_assoc]
theorem KU{al c:List Int}{i:Nat}:CG al c (i+1)=(CG al c i||(!(c.getD i 0==0)&&(decide ((al.length:Int)>0)&& !(Jv al i)))):=by
 simp only[CG,ce,dz,ez,List.any_nil,fk]
theorem aaN{al c:List Int}{i:Nat}(hi:i<c.length)(h0:(c.getD i 0==0)=false)(h:(decide ((al.length:Int)>0)&& !(Jv al i))=true):CG al c c.length=true :=
 xg.2 ⟨i,hi,by rw[h0,h]; rfl⟩
theorem S.kU(r:Rule)(c:List Int)(f:Bool)(hr:sN r)(hc:c.length<2^40):aj Tryz.prog 56 [.dat (.rule r),.row 0 f (.ints c)] (.bool (qU r c)):=by
 have g1:=hr.ex; have g2:=hr.all;refine aj.of Bd.kU (by simp) rfl rfl ?_;refine aF.same [2,12,13] (fun i:Nat=>[(14,.int i),(5,.bool (AV r.ex c i))]) (fun i=>i<=c.length/\CG r.all c i=false) (fun i=>c.length-i) 0 rfl (by decide) rfl (fun _=>rfl) ⟨by omega,rfl⟩ ⟨⟨_,rfl,rfl⟩,⟨_,rfl,?_⟩,trivial⟩ ?_
 ·show(V.bool (AV r.ex c 0)).aI=(V.bool ((r.ex.length:Int)==0)).aI;rw[AV]; simp
 refine⟨rfl,?_⟩;rintro i ⟨hi,hall⟩;refine⟨fun h3=>?_,fun h3=>?_⟩
 ·have hi':i<c.length:=by simpa using h3
  refine .mk (by simp only[Rw.rng] at *; omega) ?_;refine⟨fun h4=>?_,fun h4=>?_⟩
  ·replace h4:(c.getD i 0==0)=true:=h4;refine .mk (by simp only[okI] at *; omega) ?_;refine⟨i+1,⟨by omega,by rw[KU,hall,h4]; rfl⟩,by omega,⟨⟨_,rfl,rfl⟩,⟨_,rfl,?_⟩,trivial⟩,?_,rfl⟩
   ·rw[KT,h4]; simp[V.aI]
   ·repeat' (first|exact trivial|exact⟨_,rfl,rfl⟩|constructor)
  ·replace h4:(c.getD i 0==0)=false:=h4;repeat(refine VC.mk (by first|exact id|exact fun h=>⟨h,h⟩) ?_)
   refine ah.eY (fun _=>S.slices_Contains_int r.ex i false (by omega)) rfl ?_;repeat(refine VC.mk (by first|exact id|exact fun h=>⟨h,h⟩|(intro h; rw[h]; rfl)) ?_)
   refine ah.eY (fun _=>S.slices_Contains_int r.all i false (by omega)) rfl ?_;repeat(refine VC.mk id ?_)
   refine⟨fun h5=>?_,fun h5=>?_⟩
   ·conv=>whnf
    exact ak.bool (by rw[qU,aaN hi' h4 h5]; rfl)
   ·conv=>whnf
    refine .mk (by simp only[okI] at *; omega) ?_;refine⟨i+1,⟨by omega,by rw[KU,hall,h4]; simpa using h5⟩,by omega,⟨⟨_,rfl,rfl⟩,⟨_,rfl,?_⟩,trivial⟩,?_,rfl⟩
    ·rw[KT,h4]; simp[V.aI,sG]
    ·repeat' (first|exact trivial|exact⟨_,rfl,rfl⟩|constructor)
 ·have hi':c.length<=i:=by simpa using h3
  have e:i=c.length:=fc hi hi';subst e;exact ak.bool (by rw[qU,hall]; rfl)
structure AX(n:Nat)(r:Rule):Prop where
 src:0<=r.fr/\r.fr<n
 dst:0<=r.to/\r.to<n
 YI:0<=r.dZ/\r.dZ<n
 adT:0<=r.y7/\r.y7<n
 rsp:r.kind=3->r.response.length=n/\xJ n r.response
 exs:xJ n r.ex
def OG(c:List Int):Prop:= ∀ x∈c,0<=x/\x<=1048576
def aZ(c:List Int)(i d:Int):List Int:=c.set i.toNat (c.getD i.toNat 0+d)
def bF(c:List Int)(i:Int):List Int:=c.set i.toNat (c.getD i.toNat 0-1)
def vJ(r:Rule)(c:List Int)(i:Nat):List Int:=(List.range i).foldl (fun a j=>aZ a (r.response.getD j 0) (c.getD j 0)) (List.replicate c.length 0)
def jf(r:Rule)(e:Elem):Option Elem :=
 let c1:=bF e.counts r.fr
 let out (c:List Int):Option Elem:=some ⟨bif decide (r.write>=0) then r.write else e.value,aZ c r.to 1⟩
 bif (decide (0<=r.read)&&e.value !=r.read||e.counts.getD r.fr.toNat 0==0) then none else
 bif r.kind==1 then(bif !(qU r c1) then none else out c1) else
 bif r.kind==2 then(bif c1.getD r.dZ.toNat 0==0 then none else out (aZ (bF c1 r.dZ) r.y7 1)) else
 bif r.kind==3 then out (vJ r c1 c1.length) else out c1
def mQ(r:Rule)(e:Elem):V:=match jf r e with
 |none=>.bU [.agg [.int 0,.row 0 true .nil],.bool false]
 |some x=>.bU [.dat (.elem x),.bool true]
theorem Vp(r:Rule)(e:Elem):(mQ r e).free=true:=by
 unfold mQ; cases jf r e<;>rfl
def RH(r:Rule)(e:Elem):V:=.bU [.dat (.elem ((jf r e).getD ⟨0,[]⟩)),.bool (jf r e).isSome]
theorem YJ{Z:Nat->Prop}{h:Hp}(r:Rule)(e:Elem):T.sub Z h (RH r e).aI (mQ r e).aI:=by
 unfold RH mQ;cases jf r e with
 |none =>
  show T.sub Z h (.bU [.agg [.int 0,.sl 0 false []],.bool false]) (.bU [.agg [.int 0,.sl 0 true []],.bool false]);simp[T.sub,T.dG]
 |some x=>exact aG _
theorem aj.RH{f:FuncId}{r:Rule}{e:Elem}(S:aj Tryz.prog f [.dat (.rule r),.dat (.elem e)] (mQ r e)):aj Tryz.prog f [.dat (.rule r),.dat (.elem e)] (RH r e) :=
 zL.shut S (fun _=>YJ r e) rfl
theorem OG.get{c:List Int}(h:OG c){i:Nat}(hi:i<c.length):0<=c.getD i 0/\c.getD i 0<=1048576:=by
 rw[show c.getD i 0=c[i] by simp[hi]]; exact h _ (bR hi)
theorem xK{h:Hz}{j:Nat}{Z:Nat->Prop}{l:List Int}(hz:Z j)(q:h.get j=some (.row 3 0 (.ints l) [])):T.sub Z h.au (V.row 0 false (.ints l)).aI (V.own j).aI:=by
 show T.sub Z h.au (.sl 0 false (l.map T.int)) (.own j);simp only[T.sub];refine⟨trivial,hz,?_,by decide,3,?_⟩
 ·rw[ig]; intro t ht; obtain⟨x,_,rfl⟩:=bA.1 ht; rfl
 ·have:=aP q;rw[this]; simp[OV.ay,Rw.aQ,V.aQ]
def okB(b:Int)(c:List Int):Prop:= ∀ x∈c,-b<=x/\x<=b
theorem okB.get{b:Int}{c:List Int}(h:okB b c)(hb:0<=b)(i:Nat): -b<=c.getD i 0/\c.getD i 0<=b:=by
 by_cases hi:i<c.length
 ·rw[show c.getD i 0=c[i] by simp[hi]]; exact h _ (bR hi)
 ·rw[show c.getD i 0=0 by simp[List.getD_eq_getElem?_getD,List.getElem?_eq_none (by omega:c.length<=i)]]; omega
theorem okB.add{b k:Int}{c:List Int}(h:okB b c)(hb:0<=b)(i d:Int)(hd: -k<=d/\d<=k):okB (b+k) (aZ c i d):=by
 intro x hx;have hk:0<=k:=by omega
 rcases fb hx with hx|rfl
 ·have:=h x hx; omega
 ·have:=h.get hb i.toNat; omega
theorem okB.dec{b:Int}{c:List Int}(h:okB b c)(hb:0<=b)(i:Int):okB (b+1) (bF c i):=by
 have:=h.add hb i (-1) (k:=1) ⟨by omega,by omega⟩;rw[show bF c i=aZ c i (-1) by simp only[bF,aZ]; rfl]; exact this
theorem OG.b{c:List Int}(h:OG c):okB 1048576 c:=fun x hx=>by have:=h x hx; omega
theorem ak.Jw{h:Hz}{j:Nat}{v:Int}{l:List Int}(q:h.get j=some (.row 3 0 (.ints l) [])):ak (.bU [.dat (.elem ⟨v,l⟩),.bool true]) (.bU [.agg [.int v,.own j],.bool true]) h:=⟨by
 show T.sub (fun _=>True) h.au (.bU [.agg [.int v,.sl 0 false (l.map T.int)],.bool true]) (.bU [.agg [.int v,.own j],.bool true]);have:=xK (Z:=fun _=>True) trivial q;replace this:T.sub (fun _=>True) h.au (.sl 0 false (l.map T.int)) (.own j):=this;simp only[T.sub] at this;simp only[T.sub,T.dG]
 exact⟨⟨trivial,this,trivial⟩,trivial,trivial⟩⟩
theorem CJ{n:Nat}(h:0<n):(bif isZero (.int n) then some Rw.nil else adU (n:Int).toNat (T.int 0))=some (.ints (List.replicate n 0)):=by
 cases n with
 |zero=>omega
 |succ k=>rfl
theorem D6{r:Rule}{c:List Int}{i:Nat}:vJ r c (i+1)=aZ (vJ r c i) (r.response.getD i 0) (c.getD i 0):=by
 simp only[vJ,ce,eJ,dq,List.foldl_nil]
theorem xM{r:Rule}{c:List Int}{i:Nat}:(vJ r c i).length=c.length:=by
 induction i with
 |zero=>simp[vJ]
 |succ i ih=>rw[D6]; simp[aZ,ih]
theorem agr{r:Rule}{c:List Int}{b:Int}(h:okB b c)(hb:0<=b)(i:Nat):okB (i*b) (vJ r c i):=by
 induction i with
 |zero=>intro x hx; simp[vJ] at hx; omega
 |succ i ih =>
  rw[D6];have h0:0<=(i:Int)*b:=Int.mul_nonneg (by omega) hb;have:=ih.add h0 (r.response.getD i 0) (c.getD i 0) (k:=b) (h.get hb i);rw[show((i+1:Nat):Int)*b=i*b+b by rw[Int.natCast_add,Int.add_mul]; simp]; exact this
abbrev jI(l:List Int):OV:=.row 3 0 (.ints l) []
theorem S.vK(r:Rule)(e:Elem)(hr:sN r)(hp:AX e.counts.length r)(hc:OG e.counts)(hl:e.counts.length<=6):aj Tryz.prog 23 [.dat (.rule r),.dat (.elem e)] (mQ r e):=by
 obtain⟨f1,f2⟩:=hp.src;obtain⟨d1,d2⟩:=hp.dst;obtain⟨p1,p2⟩:=hp.YI;obtain⟨q1,q2⟩:=hp.adT;have hfr:=hc.get (i:=r.fr.toNat) (by omega);refine aj.of Bd.vK (by simp) rfl (Vp r e) ?_;repeat(refine VC.mk (by first|exact id|exact fun h=>⟨h,h⟩|(intro h; rw[h]; rfl)|(intro h; (repeat' apply And.intro)<;>first|exact h|omega|(simp only[Rw.sH]; omega)|(simp only[Rw.rng]; omega))) ?_)
 refine⟨fun h1=>?_,fun h1=>?_⟩
 ·conv=>whnf
  refine ak.eqv ?_;rw[mQ,jf,h1]; rfl
 have hl1:(bF e.counts r.fr).length=e.counts.length:=by simp[bF]
 repeat(refine VC.mk (by first|(simp only[mD,mV,Rw.len]; omega)|(simp only[okI,Rw.rng] at *; first|omega|(simp_all; done)|(simp_all; omega))) ?_)
 refine⟨fun h2=>?_,fun h2=>?_⟩
 ·conv=>whnf
  refine ah.lend (S.kU r (bF e.counts r.fr) false hr (by omega)) (And.intro (aG _) (And.intro (xK trivial rfl) trivial)) rfl rfl ?_;refine⟨fun h3=>?_,fun h3=>?_⟩
  ·conv=>whnf
   refine ak.eqv ?_;rw[mQ,jf,h1,h2,h3]; rfl
  have hB:=hc.b.dec (by omega) r.fr;have hB1:=hB.get (by omega) r.to.toNat;repeat(refine VC.mk (by first|(simp only[Rw.rng,co]; omega)|(simp only[okI,bF] at *; omega)) ?_)
  refine⟨fun h4=>?_,fun h4=>?_⟩
  ·replace h4:decide (r.write>=0)=true:=h4;have hS:mQ r e= .bU [.dat (.elem ⟨r.write,aZ (bF e.counts r.fr) r.to 1⟩),.bool true]:=by rw[mQ,jf,h1,h2,h3,h4]; rfl
   conv=>whnf
   rw[hS];exact ak.Jw rfl
  ·replace h4:decide (r.write>=0)=false:=h4;have hS:mQ r e= .bU [.dat (.elem ⟨e.value,aZ (bF e.counts r.fr) r.to 1⟩),.bool true]:=by rw[mQ,jf,h1,h2,h3,h4]; rfl
   conv=>whnf
   rw[hS];exact ak.Jw rfl
 refine⟨fun h5=>?_,fun h5=>?_⟩
 ·have hB:=hc.b.dec (by omega) r.fr;have hB1:=hB.get (by omega) r.dZ.toNat;have hB2:=hB.dec (by omega) r.dZ;have hB3:=hB2.get (by omega) r.y7.toNat;have hB4:=hB2.add (by omega) r.y7 1 (k:=1) ⟨by omega,by omega⟩;have hB5:=hB4.get (by omega) r.to.toNat;repeat(refine VC.mk (by first|(simp only[Rw.rng,co]; omega)|(simp only[bF,aZ] at *; omega)) ?_)
  refine⟨fun h6=>?_,fun h6=>?_⟩
  ·replace h6:((bF e.counts r.fr).getD r.dZ.toNat 0==0)=true:=h6;refine ak.eqv ?_;rw[mQ,jf,h1,h2,h5,h6]; rfl
  ·replace h6:((bF e.counts r.fr).getD r.dZ.toNat 0==0)=false:=h6;repeat(refine VC.mk (by first|(simp only[Rw.rng,co]; omega)|(simp only[okI,bF,aZ] at *; omega)) ?_)
   refine⟨fun h4=>?_,fun h4=>?_⟩
   ·replace h4:decide (r.write>=0)=true:=h4;have hS:mQ r e= .bU [.dat (.elem ⟨r.write,aZ (aZ (bF (bF e.counts r.fr) r.dZ) r.y7 1) r.to 1⟩),.bool true]:=by rw[mQ,jf,h1,h2,h5,h6,h4]; rfl
    conv=>whnf
    rw[hS];exact ak.Jw rfl
   ·replace h4:decide (r.write>=0)=false:=h4;have hS:mQ r e= .bU [.dat (.elem ⟨e.value,aZ (aZ (bF (bF e.counts r.fr) r.dZ) r.y7 1) r.to 1⟩),.bool true]:=by rw[mQ,jf,h1,h2,h5,h6,h4]; rfl
    conv=>whnf
    rw[hS];exact ak.Jw rfl
 refine⟨fun h6=>?_,fun h6=>?_⟩
 ·have hB:=hc.b.dec (by omega) r.fr;obtain⟨rs1,rs2⟩:=hp.rsp (bo.1 h6);conv=>whnf
  have hm:=CJ (n:=(bF e.counts r.fr).length) (by omega);simp only[bF] at hm;rw[hm];refine .mk (by simp only[co]; omega) ?_;refine aF.objs 60 [2,3,4,78,79] (fun i:Nat=>[(80,.int i),(7,.own 45)]) (fun i=>[(0,.box 59 19 (.dat (.rule r))),(1,.box 40 3 (.dat (.elem e))),(2,.box 40 3 (.agg [.int 0,.row 0 true .nil])),(25,jI (bF e.counts r.fr)),(45,jI (vJ r (bF e.counts r.fr) i))]) (fun i=>i<=(bF e.counts r.fr).length) (fun i=>(bF e.counts r.fr).length-i) 0 [0,1,2,25,45] rfl (by decide) (fun _=>rfl) (ap _) ?_ ?_ ?_
  ·exact(sR rfl)
  ·exact⟨gK rfl rfl,gK rfl rfl,gK rfl rfl,gK rfl rfl,gK rfl rfl,trivial⟩
  refine⟨(sR rfl),rfl,?_⟩;rintro i hi;have hn6:(i:Int)*1048577<=6*1048577:=eZ (by omega) (by omega);have hn0:0<=(i:Int)*1048577:=Int.mul_nonneg (by omega) (by omega);have hRB:=agr hB (by omega) (r:=r) i;have hRl:(vJ r (bF e.counts r.fr) i).length=e.counts.length:=by rw[xM,hl1]
  refine⟨fun g1=>?_,fun g1=>?_⟩
  ·have hi':i<(bF e.counts r.fr).length:=by
    have:(i:Int)<((bF e.counts r.fr).length:Int):=aq g1
    omega
   have hir:i<r.response.length:=by omega
   obtain⟨q1,q2⟩:0<=r.response.getD i 0/\r.response.getD i 0<e.counts.length:=by
    rw[show r.response.getD i 0=r.response[i] by simp[hir]]; exact rs2 _ (bR hir)
   have hR1:=hRB.get hn0 (r.response.getD i 0).toNat;have hR2:=hB.get (by omega) i;repeat(refine VC.mk (by first|(first|(simp only[Rw.rng,xM]; omega)|(simp only[okI,bF,be] at *; omega))|(simp only[Rw.rng] at *; first|omega|(simp_all; done)|(simp_all; omega))) ?_)
   refine⟨i+1,[0,1,2,25,45],by omega,by omega,(sR rfl),(sR rfl),gK rfl rfl,gK rfl rfl,gK rfl rfl,gK rfl rfl,⟨rfl,nofun,rfl,rfl,rfl,_,rfl,rfl,rfl,dH.of_eq ?_⟩,trivial⟩;rw[D6]; rfl
  have hi':i=(bF e.counts r.fr).length:=by
   have: ¬ ((i:Int)<((bF e.counts r.fr).length:Int)):=aR g1
   omega
  subst hi';have hR1:=hRB.get hn0 r.to.toNat;repeat(refine VC.mk (by first|(simp only[Rw.rng,xM]; omega)|(simp only[okI,bF,be] at *; omega)) ?_)
  refine⟨fun h4=>?_,fun h4=>?_⟩
  ·replace h4:decide (r.write>=0)=true:=h4;have hS:mQ r e= .bU [.dat (.elem ⟨r.write,aZ (vJ r (bF e.counts r.fr) (bF e.counts r.fr).length) r.to 1⟩),.bool true]:=by rw[mQ,jf,h1,h2,h5,h6,h4]; rfl
   conv=>whnf
   rw[hS];exact ak.Jw rfl
  ·replace h4:decide (r.write>=0)=false:=h4;have hS:mQ r e= .bU [.dat (.elem ⟨e.value,aZ (vJ r (bF e.counts r.fr) (bF e.counts r.fr).length) r.to 1⟩),.bool true]:=by rw[mQ,jf,h1,h2,h5,h6,h4]; rfl
   conv=>whnf
   rw[hS];exact ak.Jw rfl
 ·have hB:=hc.b.dec (by omega) r.fr;have hB1:=hB.get (by omega) r.to.toNat;repeat(refine VC.mk (by first|(simp only[Rw.rng,co]; omega)|(simp only[okI,bF] at *; omega)) ?_)
  refine⟨fun h4=>?_,fun h4=>?_⟩
  ·replace h4:decide (r.write>=0)=true:=h4;have hS:mQ r e= .bU [.dat (.elem ⟨r.write,aZ (bF e.counts r.fr) r.to 1⟩),.bool true]:=by rw[mQ,jf,h1,h2,h5,h6,h4]; rfl
   conv=>whnf
   rw[hS];exact ak.Jw rfl
  ·replace h4:decide (r.write>=0)=false:=h4;have hS:mQ r e= .bU [.dat (.elem ⟨e.value,aZ (bF e.counts r.fr) r.to 1⟩),.bool true]:=by rw[mQ,jf,h1,h2,h5,h6,h4]; rfl
   conv=>whnf
   rw[hS];exact ak.Jw rfl
end Go.Proofs.YtbdbmfccbpfeoaaGreatDoor
namespace Go.Proofs.YtbdbmfccbpfeoaaGreatDoor
open Go.Ab Go.Proofs
set_option maxRecDepth 100000
theorem adV{h:Hz}{n:Nat}{l:List Int}:iL h.au n (some ⟨3,0,l.map T.int⟩)=Hz.au ((n,some (jI l))::h):=by
 rw[bK]; simp[iL,OV.ay,Rw.aQ,V.aQ]
theorem adW{l:List Int}{s:Int}:Jv l s=true↔s∈l:=by
 simp only[Jv,di,bo];constructor
 ·rintro⟨x,h,rfl⟩; exact h
 ·intro h; exact⟨s,h,rfl⟩
theorem qG{ρ:Nat->Nat}{nx pn c n:Nat}{h:Hz}{s:List Nat}{o:OV}(a:(Nat.blt c nx&&(!(Nat.blt c pn)||Nat.beq n c)&&oI n s&&(o.good nx&&o.Ce))=true)(b:(h.get n).map OV.ay=some o.ay):Nat.blt c nx=true/\(Nat.blt c pn=true->n=c)/\oI n s=true/\o.good nx=true /\
   ∃ o',h.get n=some o'/\o'.ay.ty=o.ay.ty/\o'.ay.k=o.ay.k/\dH (T.bQ ρ o.ay.l) o'.ay.l:=by
 simp only[aD,cS,bl] at a;obtain⟨⟨⟨a1,a2⟩,a3⟩,a4,a5⟩:=a;obtain⟨o',b1,b2⟩:=bX.1 b;exact⟨a1,fun h=>a2.elim (fun q=>by rw[q] at h; cases h) fA,a3,a4,o',b1,by rw[b2],by rw[b2],by rw[OV.dR a5,b2]; exact .refl _⟩
theorem Xr{ρ:Nat->Nat}{nx pn c n:Nat}{h:Hz}{s:List Nat}{o o':OV}(a:(Nat.blt c nx&&(!(Nat.blt c pn)||Nat.beq n c)&&oI n s)=true)(g:o.good nx=true)(b:h.get n=some o')(t:o'.ay.ty=o.ay.ty/\o'.ay.k=o.ay.k)(l:dH (T.bQ ρ o.ay.l) o'.ay.l):Nat.blt c nx=true/\(Nat.blt c pn=true->n=c)/\oI n s=true/\o.good nx=true /\
   ∃ o',h.get n=some o'/\o'.ay.ty=o.ay.ty/\o'.ay.k=o.ay.k/\dH (T.bQ ρ o.ay.l) o'.ay.l:=by
 simp only[aD,cS,bl] at a;obtain⟨⟨a1,a2⟩,a3⟩:=a;exact⟨a1,fun h=>a2.elim (fun q=>by rw[q] at h; cases h) fA,a3,g,o',b,t.1,t.2,l⟩
theorem okF{ρ:Nat->Nat}{nx pn c n:Nat}{h:Hz}{s:List Nat}{o o':OV}(q1:Nat.blt c nx=true)(q2:Nat.blt c pn=true->n=c)(q3:oI n s=true)(q4:(o.good nx&&o.Ce)=true)(q5:h.get n=some o')
  (q6:o'.ay.ty=o.ay.ty/\o'.ay.k=o.ay.k) (q7:o.ay.l=o'.ay.l):Nat.blt c nx=true/\(Nat.blt c pn=true->n=c)/\oI n s=true/\o.good nx=true /\
   ∃ o',h.get n=some o'/\o'.ay.ty=o.ay.ty/\o'.ay.k=o.ay.k/\dH (T.bQ ρ o.ay.l) o'.ay.l:=by
 rw[aD] at q4;exact⟨q1,q2,q3,q4.1,o',q5,q6.1,q6.2,dH.of_eq ((OV.dR q4.2 ρ).trans q7)⟩
theorem bz{c:Bool}{a b:Int}(ha:c=true->a≠0)(h:(bif c then a else b)=0):c=false/\b=0:=by
 cases c with
 |true=>exact absurd h (ha rfl)
 |false=>exact⟨rfl,h⟩
theorem nz{a:Int}(h:(a !=0)=true):a≠0:=by simpa using h
theorem jq: ∀ {l:List Int},bJ l=0-> ∀ x∈l,x=0:=by
 intro l;induction l with
 |nil=>intro _ x h; cases h
 |cons a r ih =>
  intro h x hx;simp only[bJ] at h;split at h
  ·rename_i h0;rcases bm.1 hx with rfl|hx
   ·exact h0
   ·exact ih h x hx
  ·rename_i h0; exact absurd h h0
structure CO(p:aB):Prop where
 pos:0<p.states.length
 states:p.states.length<=6
 values:p.values.length<=3
 Qe:p.rules.length<=8
 init:jr p.initial p.states.length=0
 start:p.initial≠[]
 rule: ∀ i,i<p.rules.length->gQ p i=0
theorem CP{p:aB}(h:aW p=0):CO p:=by
 unfold aW at h;obtain⟨_,h⟩:=bz (fun _=>by decide) h;obtain⟨_,h⟩:=bz (fun _=>by decide) h;obtain⟨h0,h⟩:=bz (fun _=>by decide) h;obtain⟨h1,h⟩:=bz (fun _=>by decide) h;obtain⟨_,h⟩:=bz nz h;obtain⟨_,h⟩:=bz (fun _=>by decide) h;obtain⟨_,h⟩:=bz (fun _=>by decide) h;obtain⟨h2,h⟩:=bz nz h;obtain⟨h3,h⟩:=bz nz h;have h2':zM p=0:=by simpa using h2
 have h3':Fp p=0:=by simpa using h3
 have g:=jq h2';simp only[xO,bi,ao] at h1;refine⟨?_,by omega,by omega,by omega,g _ (by simp),?_,fun i hi=>?_⟩
 ·have:(p.states.length:Int)≠0:=by simpa using h0
  omega
 ·intro e;have:=g (eF ((p.initial.length:Int)==0) 1) (by simp);rw[e] at this; exact absurd this (by decide)
 ·exact jq h3' _ (bA.2 ⟨i,by simpa using hi,rfl⟩)
theorem vC{x:Int}{n:Nat}(h:sO x n=false):0<=x/\x<n:=by
 simp only[sO,bi,ao] at h; omega
theorem AY{x:Int}{n:Nat}(h:dn x n=0):0<=x/\x<n:=by
 refine vC ?_;unfold dn eF at h;cases hb:sO x n with
 |false=>rfl
 |true=>rw[hb] at h; exact absurd h (by decide)
theorem D7{l:List Int}{n:Nat}(h:jr l n=0):xJ n l:=by
 unfold jr at h;obtain⟨h,_⟩:=bz (fun _=>by decide) h;rw[dv] at h;exact fun q hq=>vC (by simpa using h q hq)
theorem RI{n:Nat}: ∀ {l:List Int},qV l n=0->xJ n l:=by
 intro l;induction l with
 |nil=>intro _ q h; cases h
 |cons x r ih =>
  intro h q hq;simp only[qV] at h;split at h
  ·rename_i h0;rcases bm.1 hq with rfl|hq
   ·exact AY h0
   ·exact ih h q hq
  ·rename_i h0; exact absurd h h0
theorem YK{k:Int}(h:wQ k 1=true):k=1\/k=2\/k=3:=by
 unfold wQ at h;cases h1:(k==1) with
 |true=>exact .inl (bo.1 h1)
 |false =>
  cases h2:(k==2) with
  |true=>exact .inr (.inl (bo.1 h2))
  |false =>
   cases h3:(k==3) with
   |true=>exact .inr (.inr (bo.1 h3))
   |false=>rw[h1,h2,h3] at h; cases hb:(k==4||k==5)<;>rw[hb] at h<;>cases h
structure Gp(n:Nat)(p:aB)(r:Rule):Prop where
 place:AX n r
 kind:r.kind=1\/r.kind=2\/r.kind=3
 ajP:xJ n r.all
 ex1:r.kind≠1->r.ex=[]/\r.all=[]
 rd:sO r.read p.values.length=false\/r.read= -1
 wr:sO r.write p.values.length=false\/r.write= -1
theorem uI{p:aB}{v:Int}(h:jJ p v=0):sO v p.values.length=false\/v= -1:=by
 unfold jJ eF at h;have h': ¬ (v< -1\/v>=(p.values.length:Int)):=by
  intro q
  have:(decide (v< -1)||decide (v>=(p.values.length:Int)))=true:=by simpa using q
  rw[this] at h; exact absurd h (by decide)
 by_cases e:v= -1
 ·exact .inr e
 ·left;simp only[sO,bi,ao]; omega
theorem OH{p:aB}{i:Nat}(hv:CO p)(ht:p.topology=1)(hi:i<p.rules.length):Gp p.states.length p (p.rules.getD i default):=by
 have h:=hv.rule i hi;have hpos:=hv.pos;simp only[gQ,qR] at h;generalize (p.rules.getD i default)=r at h ⊢;obtain⟨_,h⟩:=bz (fun _=>by decide) h;obtain⟨hb,h⟩:=bz (fun _=>by decide) h;obtain⟨he,h⟩:=bz nz h;rw[J7,bi] at he;rw[ht,bi] at hb;have hk:=YK (show wQ r.kind 1=true by simpa using hb.1);have hu:lC r 1=false:=by rw[xP (by omega)]; exact hb.2
 have hun:=Iw hu;have hpf:r.kind≠2->r.kind≠5->r.dZ=0/\r.y7=0:=by
  intro k1 k2;simp only[lC,Xt,bi] at hu;have h3:=hu.2.2.1;simp only[cE.2 k1,cE.2 k2,gE,cj,bi] at h3;exact⟨Vq h3.1,Vq h3.2⟩
 have h00:(0:Int)<=0/\(0:Int)<p.states.length:=⟨by omega,by omega⟩
 have pn:xJ p.states.length []:=fun q hq=>by cases hq
 rcases hk with e|e|e
 ·rw[e] at h;have g:=jq h;have⟨a,b⟩:=hpf (by omega) (by omega);exact⟨⟨vC he.1,vC he.2,by rw[a]; exact h00,by rw[b]; exact h00,fun q=>by omega,D7 (g (jr r.ex p.states.length) (by simp))⟩,.inl e,D7 (g (jr r.all p.states.length) (by simp)),fun q=>absurd e q,uI (g (jJ p r.read) (by simp)),uI (g (jJ p r.write) (by simp))⟩
 ·rw[e] at h;have g:=jq h;obtain⟨_,u1,u2,_⟩:=hun.1 (by omega);exact⟨⟨vC he.1,vC he.2,AY (g (dn r.dZ p.states.length) (by simp)),AY (g (dn r.y7 p.states.length) (by simp)),fun q=>by omega,by rw[u1]; exact pn⟩,.inr (.inl e),by rw[u2]; exact pn,fun _=>⟨u1,u2⟩,uI (g (jJ p r.read) (by simp)),uI (g (jJ p r.write) (by simp))⟩
 ·rw[e] at h;have g:=jq h;have⟨a,b⟩:=hpf (by omega) (by omega);obtain⟨_,u1,u2,_⟩:=hun.1 (by omega);have hr:=g (Gq r.response p.states.length) (by simp);unfold Gq at hr;obtain⟨r1,r2⟩:=bz (fun _=>by decide) hr;exact⟨⟨vC he.1,vC he.2,by rw[a]; exact h00,by rw[b]; exact h00,fun _=>⟨by have q9:(r.response.length:Int)=p.states.length:=(by simpa using r1); omega,RI r2⟩,by rw[u1]; exact pn⟩,.inr (.inr e),by rw[u2]; exact pn,fun _=>⟨u1,u2⟩,uI (g (jJ p r.read) (by simp)),uI (g (jJ p r.write) (by simp))⟩
theorem OI{p:aB}(h:qg p=true):p.topology=1:=by
 simp only[qg,aD,bo] at h; exact h.1.1.1
structure Gs(p:aB)(e:Elem):Prop where
 valid:CO p
 plain:qg p=true
 len:e.counts.length=p.states.length
 nums:OG e.counts
 val:0<=e.value/\e.value<max 1 (p.values.length:Int)
theorem YL{p:aB}(h:zN p=0):aW p=0/\qg p=true:=by
 unfold zN at h;obtain⟨h1,h⟩:=bz nz h;obtain⟨h2,_⟩:=bz (fun _=>by decide) h;refine⟨by simpa using h1,?_⟩;simp only[iF] at h2;cases hp:qg p with
 |true=>rfl
 |false=>rw[hp] at h2; simp at h2
theorem Iy{b:Bool}{n:Int}(h:eF b n=0)(hn:n≠0):b=false:=by
 cases b with
 |false=>rfl
 |true=>exact absurd h hn
theorem Qg{x:Int}:EH x=true↔0<=x/\x<=1048576:=by simp[EH]
theorem ags{p:aB}{e:Elem}(h:uF p e=false):e.counts.length=p.states.length/\OG e.counts/\0<=e.value/\e.value<max 1 (p.values.length:Int):=by
 simp only[uF,bi,ao] at h;obtain⟨⟨⟨h1,h2⟩,h3⟩,h4⟩:=h;refine⟨?_,fun x hx=>?_,by omega,by omega⟩
 ·have:(e.counts.length:Int)=p.states.length:=by simpa using h1
  omega
 ·have:e.counts.all EH=true:=by simpa using h2
  exact Qg.1 (cA.1 this x hx)
theorem ahN{p:aB}{e:Elem}(h:xQ p e=0):Gs p e:=by
 unfold xQ at h;obtain⟨h1,h⟩:=bz nz h;obtain⟨h2,h3⟩:=YL (by simpa using h1);obtain⟨a,b,c⟩:=ags (Iy h (by decide));exact⟨CP h2,h3,a,b,c⟩
theorem Gs.OH{p:aB}{e:Elem}(h:Gs p e){i:Nat}(hi:i<p.rules.length):Gp e.counts.length p (p.rules.getD i default):=by
 rw[h.len]; exact YtbdbmfccbpfeoaaGreatDoor.OH h.valid (OI h.plain) hi
theorem zO{α:Type}{c:Bool}{a b:Option α}{x:α}(h:(bif c then a else b)=some x):a=some x\/b=some x:=by
 cases c with
 |true=>exact .inl h
 |false=>exact .inr h
theorem uJ{c:List Int}{i d:Int}:(aZ c i d).length=c.length:=by simp[aZ]
theorem uK{c:List Int}{i:Int}:(bF c i).length=c.length:=by simp[bF]
theorem YM{r:Rule}{e x:Elem}(h:jf r e=some x):x.counts.length=e.counts.length:=by
 simp only[jf] at h;have out: ∀ {c:List Int} {v:Int},c.length=e.counts.length->some (⟨v,aZ c r.to 1⟩:Elem)=some x->x.counts.length=e.counts.length:=by
  intro c v hc h; cases h; rw[uJ,hc]
 rcases zO h with h|h
 ·cases h
 rcases zO h with h|h
 ·rcases zO h with h|h
  ·cases h
  ·exact out uK h
 rcases zO h with h|h
 ·rcases zO h with h|h
  ·cases h
  ·exact out (by rw[uJ,uK,uK]) h
 rcases zO h with h|h
 ·exact out (by rw[xM,uK]) h
 ·exact out uK h
def qH(p:aB)(e:Elem)(k:Nat):List Elem:=(p.rules.take k).filterMap fun r=>jf r e
theorem Vr{p:aB}{e:Elem}{k:Nat}(hk:k<p.rules.length):qH p e (k+1)=qH p e k++(jf (p.rules.getD k default) e).toList:=by
 simp only[qH];rw[cJ,List.filterMap_append];simp only[bE hk,Option.toList_some,ag,dt];cases hf:jf p.rules[k] e with
 |none=>simp[hf]
 |some x=>simp[hf]
theorem OJ{p:aB}{e:Elem}{k:Nat}:(qH p e k).length<=k:=by
 have h1:=List.length_filterMap_le (fun r=>jf r e) (p.rules.take k);simp at h1; unfold qH; omega
theorem Jy{p:aB}{e:Elem}{k:Nat}{x:Elem}(h:x∈qH p e k):x.counts.length=e.counts.length:=by
 obtain⟨r,_,h2⟩:=List.mem_filterMap.1 h;exact YM h2
def xR(p:aB)(e:Elem):List Elem:=bif xQ p e !=0 then [] else vM (qH p e p.rules.length)
theorem ahO(p:aB)(e:Elem):vM (qH p e p.rules.length)=(qH p e p.rules.length).foldl wF []:=by
 obtain⟨a,b⟩:=Fq (qH p e p.rules.length) [] (by simp[SS]);refine D8 (KX _) a fun x=>?_
 rw[zQ,b]; simp
theorem ah.insert{h:Hz}{i n:Nat}{l:List Elem}{e:Elem}{K:V->Hz->Prop}{KW:Nat->V->Hz->Prop}(hi:h.get i=some (bT l))(hn:h.get n=none)(hl:l.length<2^30)(hs:eG l)(he:e.counts.length<2^30)
  (h1:AZ l e=true->K (.own i) ((i,some (bT l))::h)) (h2:AZ l e=false->K (.own n) ((n,some (bT (wF l e)))::(i,none)::h)):ah Tryz.prog false none 11 [.own i,.dat (.elem e)] h n K KW:=by
 refine ah.Vs (ts:=[.own 0,.dat (.elem e)]) (S.xU l e 1 (by decide) hl hs he) ?_ rfl rfl rfl hi hn ?_
 ·show [T.own i,T.ren _ (fG e)]=[T.own i,fG e];rfl
 ·rintro t hp (⟨a,rfl,rfl⟩|⟨a,rfl,rfl⟩)
  ·exact .inl ⟨.own i,bT l,rfl,rfl,rfl,h1 a⟩
  ·exact .inr ⟨.own n,bT (wF l e),rfl,rfl,rfl,h2 a⟩
theorem ah.tidy{h:Hz}{i n:Nat}{l:List Elem}{K:V->Hz->Prop}{KW:Nat->V->Hz->Prop}(hi:h.get i=some (bT l))(hn:h.get n=none)(hl:l.length<2^30)(hs:eG l)
  (h1:K (.own i) ((i,some (bT (vM l)))::h)) (h2: ∀ m,K (.oG i 0 (vM l).length) ((i,some (.row 40 3 (.elems (vM l)) (List.replicate m zeroV)))::h)):ah Tryz.prog false none 24 [.own i] h n K KW:=by
 refine ah.Vs (ts:=[.own 0]) (S.uM l 1 hl hs) rfl rfl rfl rfl hi hn ?_;rintro t hp (⟨rfl,rfl⟩|⟨m,rfl,rfl⟩)
 ·exact .inl ⟨.own i,bT (vM l),rfl,rfl,rfl,h1⟩
 ·exact .inl ⟨.oG i 0 _,.row 40 3 (.elems (vM l)) (List.replicate m zeroV),rfl,Gt _ _,rfl,h2 m⟩
theorem ak.ahP{h:Hz}{j:Nat}{l:List Elem}{c:Int}(q:h.get j=some (bT l)):ak (.bU [.row 3 false (.elems l),.int c]) (.bU [.own j,.int c]) h:=⟨by
 have:=KY (Z:=fun _=>True) trivial q;show T.sub (fun _=>True) h.au (.bU [.sl 3 false (l.map fG),.int c]) (.bU [.own j,.int c]);simp only[T.sub,T.dG];replace this:T.sub (fun _=>True) h.au (.sl 3 false (l.map fG)) (.own j):=this;simp only[T.sub] at this
 exact⟨this,trivial,trivial⟩⟩
theorem ak.ahQ{h:Hz}{j m:Nat}{l:List Elem}{c:Int}(q:h.get j=some (.row 40 3 (.elems l) (List.replicate m zeroV))):ak (.bU [.row 3 false (.elems l),.int c]) (.bU [.oG j 0 l.length,.int c]) h:=⟨by
 have:=(ak.aaO q).ok;show T.sub (fun _=>True) h.au (.bU [.sl 3 false (l.map fG),.int c]) (.bU [.oG j 0 l.length,.int c]);simp only[T.sub,T.dG];replace this:T.sub (fun _=>True) h.au (.sl 3 false (l.map fG)) (.oG j 0 l.length):=this;simp only[T.sub] at this
 exact⟨this,trivial,trivial⟩⟩
theorem ak.EO{h:Hz}{k:Nat}{c:Int}:ak (.bU [.row 3 false (.elems []),.int c]) (.bU [.row k true .nil,.int c]) h:=⟨by
 show T.sub (fun _=>True) h.au (.bU [.sl 3 false [],.int c]) (.bU [.sl k true [],.int c])
 simp[T.sub,T.dG]⟩
theorem S.xW(p:aB)(e:Elem)(hp:dJ p)(he:e.counts.length<2^30):aj Tryz.prog 8 [.dat (.fM p),.dat (.elem e)] (.bU [.row 3 false (.elems (xR p e)),.int (xQ p e)]):=by
 have hpr:=hp.rules;refine aj.of Bd.xW (by simp) rfl rfl ?_;refine ah.pure (S.jK p e hp he) rfl ?_;refine⟨fun h1=>?_,fun h1=>?_⟩
 ·conv=>whnf
  rw[xR,h1];exact ak.EO
 replace h1:(xQ p e !=0)=false:=h1;have h1':xQ p e=0:=EP h1;have hF:=ahN h1';have hst:=hF.valid.states;have hlen:=hF.len;have hS:xR p e=vM (qH p e p.rules.length):=by rw[xR,h1]; rfl
 rw[hS,h1'];refine aF.nil 7 40 3 (by rfl) rfl rfl rfl ?_;refine aF.objs 3 [3,19,20] (fun i:Nat=>[(21,.int i),(7,.own 2)]) (fun i=>[(1,.box 40 3 (.dat (.elem e))),(2,bT (qH p e i))]) (fun i=>i<=p.rules.length) (fun i=>p.rules.length-i) 0 [1,15] rfl (by decide) (fun _=>rfl) (ap _) ?_ ?_ ?_
 ·exact(sR rfl)
 ·exact⟨gK rfl rfl,gK rfl rfl,trivial⟩
 refine⟨(sR rfl),rfl,?_⟩;rintro i hi;have hpl:=OJ (p:=p) (e:=e) (k:=i);refine⟨fun h3=>?_,fun h3=>?_⟩
 ·have hi':i<p.rules.length:=by simpa using h3
  have hstep:=Vr (e:=e) hi';refine .mk (by simp only[Rw.rng] at *; omega) ?_;refine ah.pure (aj.RH (S.vK (p.rules.getD i default) e (hp.rule i) (hF.OH hi').place hF.nums (by omega))) rfl ?_;refine⟨fun h4=>?_,fun h4=>?_⟩
  ·obtain⟨x,hx⟩:=am.1 h4;rw[show jf (p.rules.getD i default) e=some x from hx] at hstep;rw[hx];repeat(refine VC.mk (by first|(show((qH p e i).length+(0+1))*32<=140737488355328/\(qH p e i).length+(0+1)<=1152921504606846976; omega)|(simp only[okI] at *; omega)) ?_)
   refine⟨i+1,[1,21],by omega,by omega,(sR rfl),(sR rfl),gK rfl rfl,⟨rfl,nofun,rfl,rfl,rfl,_,rfl,rfl,rfl,dH.of_eq ?_⟩,trivial⟩;rw[hstep];show List.map fG _++[]=List.map fG _++[fG _];simp
  ·replace h4:(jf (p.rules.getD i default) e).isSome=false:=h4;rw[Option.isSome_eq_false_iff,Option.isNone_iff_eq_none] at h4;rw[h4] at hstep;refine .mk (by simp only[okI] at *; omega) ?_;refine⟨i+1,[1,2],by omega,by omega,(sR rfl),(sR rfl),gK rfl rfl,⟨rfl,nofun,rfl,rfl,rfl,_,rfl,rfl,rfl,dH.of_eq ?_⟩,trivial⟩;rw[hstep]; simp
 ·have hi':i=p.rules.length:=by
   have: ¬ ((i:Int)<(p.rules.length:Int)):=aR h3
   omega
  subst hi';refine ah.tidy rfl rfl (by omega) (fun x hx=>by rw[Jy hx]; omega) ?_ (fun m=>?_)
  ·conv=>whnf
   exact ak.ahP rfl
  ·conv=>whnf
   exact ak.ahQ rfl
theorem YN(p:aB)(e:Elem)(h:p.rules.length<2^30):(xR p e).length<2^30:=by
 unfold xR;cases (xQ p e !=0) with
 |true=>show([]:List Elem).length<_; decide
 |false =>
  have h1:=Gu (qI (qH p e p.rules.length)) (qI (qH p e p.rules.length)).length;have h2:=Iz (qH p e p.rules.length);have h3:=OJ (p:=p) (e:=e) (k:=p.rules.length);show(vF _ _).length<_;omega
theorem RJ(p:aB)(e:Elem)(he:e.counts.length<2^30):eG (xR p e):=by
 unfold xR;cases (xQ p e !=0) with
 |true=>intro x hx; cases hx
 |false=>intro x hx; rw[Jy ((zQ _ _).1 hx)]; omega
theorem RN{a b:List Int}(h:qJ a b=true)(i:Nat):a.getD i 0<=b.getD i 0:=by
 obtain⟨h1,h2⟩:=sQ.1 h;by_cases hi:i<a.length
 ·exact h2 i hi
 ·rw[show a.getD i 0=0 by simp[List.getD_eq_getElem?_getD,List.getElem?_eq_none (by omega:a.length<=i)],show b.getD i 0=0 by simp[List.getD_eq_getElem?_getD,List.getElem?_eq_none (by omega:b.length<=i)]];exact Int.le_refl _
theorem nJ{c:List Int}{i d:Int}{j:Nat}:(aZ c i d).getD j 0=if j=i.toNat/\j<c.length then c.getD j 0+d else c.getD j 0:=by
 unfold aZ;rw[ag,List.getElem?_set];by_cases h:i.toNat=j
 ·subst h;by_cases h2:i.toNat<c.length
  ·simp[h2]
  ·simp[h2]
 ·rw[av h,av (fun q=>h q.1.symm),ag]
theorem Gv{c:List Int}{i:Int}:bF c i=aZ c i (-1):=rfl
theorem Vt{p:aB}{e:Elem}(h1:aW p=0)(h2:(iF p).cover=true)(h3:uF p e=false):xQ p e=0:=by
 have:zN p=0:=by
  unfold zN;rw[show(aW p !=0)=false by simp[h1],h2]; rfl
 rw[xQ,this,h3]; rfl
structure uN(q:Prop'):Prop where
 start:q.start.length<2^30
 bad:q.bad.length<2^30
 adjacent:q.adjacent.length<2^30
 goal:q.goal.length<2^30
 cnt: ∀ i,(q.bad.getD i default).states.length<2^30
def xX(c:Cnt):Bool:=((c.states.length:Int)==0||decide (c.least<1))||decide (c.least>3)
def aaP(n:Int)(c:Cnt):Int:=bJ [jr c.states n,eF (xX c) 1]
def D9(l:List Cnt)(n:Int):Int:=bJ (l.map (aaP n))
def Vu(p:aB)(l:List Int):Int:=bif (l.length:Int)==0 then 0 else bif p.topology==1 then 6 else bif (l.length:Int) !=2 then 1 else bJ [dn (l.getD 0 0) p.states.length,dn (l.getD 1 0) p.states.length]
def A8(q:Prop'):Bool:=((q.kind==1)&&decide ((q.goal.length:Int)>0))||(!(q.kind==1)&&(decide ((q.bad.length:Int)>0)||decide ((q.adjacent.length:Int)>0)))
def rO(p:aB)(q:Prop'):Int :=
 let n:Int:=p.states.length
 bif aW p !=0 then aW p else bif !(validName q.name) then 2 else bif !(q.kind==1)&&q.kind !=2 then 1 else bif A8 q then 1 else
 bif jr q.start n !=0 then jr q.start n else bif q.start.any (fun x=> !(Jv p.initial x)) then 5 else
 bif !(q.kind==1) then bJ [jr q.goal n,eF ((q.goal.length:Int)==0) 1] else
 bJ [eF (((q.bad.length:Int)==0)&&((q.adjacent.length:Int)==0)) 1,eF (decide ((q.bad.length:Int)>3)) 4,D9 q.bad n,Vu p q.adjacent]
theorem S.mW(l:List Cnt)(n:Int)(f:Bool)(hl:l.length<2^30)(hs: ∀ i,(l.getD i default).states.length<2^30):aj Tryz.prog 104 [.row 3 f (.cnts l),.int n] (.int (D9 l n)):=by
 refine aj.of Bd.mW (by simp) rfl rfl ?_;refine aF.same [1,8,9] (fun i:Nat=>[(10,.int i)]) (fun i=>i<=l.length/\D9 l n=bJ ((l.drop i).map (aaP n))) (fun i=>l.length-i) 0 rfl (by decide) rfl (fun _=>rfl) ⟨by omega,by simp[D9]⟩ ⟨⟨_,rfl,rfl⟩,trivial⟩ ?_;refine⟨rfl,?_⟩;rintro i ⟨hi,hall⟩;refine⟨fun h3=>?_,fun h3=>?_⟩
 ·have hi':i<l.length:=by simpa using h3
  rw[dh default hi',bp] at hall;simp only[bJ] at hall;have hc:=hs i;refine .mk (by simp only[Rw.rng] at *; omega) ?_;refine ah.pure (S.eX (l.getD i default).states n false (by omega)) rfl ?_;repeat(refine VC.mk (by first|exact id|(intro h; rw[h]; rfl)) ?_)
  refine ah.pure (S.bV (xX (l.getD i default)) 1) rfl ?_;refine ah.pure (S.bM [jr (l.getD i default).states n,eF (xX (l.getD i default)) 1] true (show 2<2^40 by decide)) rfl ?_;refine⟨fun h4=>?_,fun h4=>?_⟩
  ·conv=>whnf
   refine ak.int ?_;have h4':aaP n (l.getD i default)≠0:=nz h4;rw[hall,av h4']; rfl
  ·conv=>whnf
   refine .mk (by simp only[okI] at *; omega) ?_;conv=>whnf
   have h4':aaP n (l.getD i default)=0:=EP h4;rw[ba h4'] at hall;refine⟨i+1,⟨by omega,hall⟩,by omega,⟨⟨_,rfl,rfl⟩,trivial⟩,?_,rfl⟩;repeat' (first|exact trivial|exact⟨_,rfl,rfl⟩|constructor)
 ·have hi':l.length<=i:=by simpa using h3
  rw[cD hi'] at hall;exact ak.int (by rw[hall]; rfl)
theorem S.kP(p:aB)(l:List Int)(f:Bool)(_hl:l.length<2^30):aj Tryz.prog 105 [.dat (.fM p),.row 0 f (.ints l)] (.int (Vu p l)):=by
 refine aj.of Bd.kP (by simp) rfl rfl ?_;refine⟨fun h1=>?_,fun h1=>?_⟩
 ·conv=>whnf
  exact ak.int (by rw[Vu,h1]; rfl)
 refine⟨fun h2=>?_,fun h2=>?_⟩
 ·conv=>whnf
  exact ak.int (by rw[Vu,h1,h2]; rfl)
 refine⟨fun h3=>?_,fun h3=>?_⟩
 ·conv=>whnf
  exact ak.int (by rw[Vu,h1,h2,h3]; rfl)
 have h4:l.length=2:=by
  have:(l.length:Int)=2:=by simpa using h3
  omega
 repeat(refine VC.mk (by simp only[Rw.rng] at *; omega) ?_)
 refine ah.pure (S.cu (l.getD 0 0) p.states.length) rfl ?_;refine ah.pure (S.cu (l.getD 1 0) p.states.length) rfl ?_;refine ah.pure (S.bM [dn (l.getD 0 0) p.states.length,dn (l.getD 1 0) p.states.length] true (show 2<2^40 by decide)) rfl ?_;exact ak.int (by rw[Vu,h1,h2,h3]; rfl)
theorem S.eU(p:aB)(q:Prop')(hp:dJ p)(hq:uN q):aj Tryz.prog 74 [.dat (.fM p),.dat (.prop q)] (.int (rO p q)):=by
 have g1:=hp.states; have g5:=hp.initial;have q1:=hq.start; have q2:=hq.bad; have q3:=hq.adjacent; have q4:=hq.goal;refine aj.of Bd.eU (by simp) rfl rfl ?_;refine ah.pure (S.fU p hp) rfl ?_;refine⟨fun h1=>?_,fun h1=>?_⟩
 ·conv=>whnf
  exact ak.int (by rw[rO,h1]; rfl)
 refine ah.pure (S.gW q.name) rfl ?_;refine⟨fun h2=>?_,fun h2=>?_⟩
 ·conv=>whnf
  exact ak.int (by rw[rO,h1,h2]; rfl)
 repeat(refine VC.mk id ?_)
 refine⟨fun h3=>?_,fun h3=>?_⟩
 ·conv=>whnf
  exact ak.int (by rw[rO,h1,h2,h3]; rfl)
 repeat(refine VC.mk id ?_)
 refine⟨fun h4=>?_,fun h4=>?_⟩
 ·conv=>whnf
  refine Fork.mk (fun _=>?_) (fun q=>absurd (q.symm.trans (h4)) aM);exact ak.int (by rw[rO,h1,h2,h3,show A8 q=true by rw[A8]; erw [h4]; rfl]; rfl)
 repeat(refine VC.mk (by first|exact id|(intro h; simp_all; done)) ?_)
 refine⟨fun h5=>?_,fun h5=>?_⟩
 ·conv=>whnf
  exact ak.int (by rw[rO,h1,h2,h3,show A8 q=true by rw[A8]; erw [h5]; simp]; rfl)
 have h45:A8 q=false:=by rw[A8]; erw [h4,h5]; rfl
 refine ah.pure (S.eX q.start p.states.length false (by omega)) rfl ?_;refine⟨fun h6=>?_,fun h6=>?_⟩
 ·conv=>whnf
  exact ak.int (by rw[rO,h1,h2,h3,h45,h6]; rfl)
 refine aF.same [2,3,6,7,65,66] (fun i:Nat=>[(67,.int i)]) (fun i=>i<=q.start.length/\(q.start.take i).any (fun x=> !(Jv p.initial x))=false) (fun i=>q.start.length-i) 0 rfl (by decide) rfl (fun _=>rfl) ⟨by omega,by simp⟩ ⟨⟨_,rfl,rfl⟩,trivial⟩ ?_;refine⟨rfl,?_⟩;rintro i ⟨hi,hall⟩;refine⟨fun h7=>?_,fun h7=>?_⟩
 ·have hi':i<q.start.length:=by simpa using h7
  refine .mk (by simp only[Rw.rng] at *; omega) ?_;refine ah.pure (S.slices_Contains_int p.initial (q.start.getD i 0) false (by omega)) rfl ?_;refine⟨fun h8=>?_,fun h8=>?_⟩
  ·conv=>whnf
   exact ak.int (by rw[rO,h1,h2,h3,h45,h6,oJ (d:=0) hi' h8]; rfl)
  ·conv=>whnf
   refine .mk (by simp only[okI] at *; omega) ?_;refine⟨i+1,⟨by omega,?_⟩,by omega,⟨⟨_,rfl,rfl⟩,trivial⟩,?_,rfl⟩
   ·rw[sS (d:=0) hi' hall]; exact h8
   ·repeat' (first|exact trivial|exact⟨_,rfl,rfl⟩|constructor)
 have hi':q.start.length<=i:=by simpa using h7
 rw[bk hi'] at hall;refine⟨fun h8=>?_,fun h8=>?_⟩
 ·conv=>whnf
  refine ah.pure (S.eX q.goal p.states.length false (by omega)) rfl ?_;refine ah.pure (S.bV ((q.goal.length:Int)==0) 1) rfl ?_;refine ah.pure (S.bM [jr q.goal p.states.length,eF ((q.goal.length:Int)==0) 1] true (show 2<2^40 by decide)) rfl ?_;exact ak.int (by rw[rO,h1,h2,h3,h45,h6,hall,h8]; rfl)
 repeat(refine VC.mk id ?_)
 refine ah.pure (S.bV (((q.bad.length:Int)==0)&&((q.adjacent.length:Int)==0)) 1) rfl ?_;refine ah.pure (S.bV (decide ((q.bad.length:Int)>3)) 4) rfl ?_;refine ah.pure (S.mW q.bad p.states.length false q2 hq.cnt) rfl ?_;refine ah.pure (S.kP p q.adjacent false q3) rfl ?_;refine ah.pure (S.bM [eF (((q.bad.length:Int)==0)&&((q.adjacent.length:Int)==0)) 1,eF (decide ((q.bad.length:Int)>3)) 4,D9 q.bad p.states.length,Vu p q.adjacent] true (show 4<2^40 by decide)) rfl ?_;exact ak.int (by rw[rO,h1,h2,h3,h45,h6,hall,h8]; rfl)
end Go.Proofs.YtbdbmfccbpfeoaaGreatDoor
namespace Go.Proofs.YtbdbmfccbpfeoaaGreatDoor
open Go.Ab Go.Proofs
set_option maxRecDepth 100000
theorem ak.ahR{h:Hz}{j:Nat}{l:List Int}(q:h.get j=some (jI l)):ak (.row 0 false (.ints l)) (.own j) h:=⟨xK trivial q⟩
theorem ak.ai5{h:Hz}{k k':Nat}{r:Rw}(e:r.len=0):ak (.row k false r) (.row k' true .nil) h:=⟨by
 have:r.aQ=[]:=ai (by rw[Rw.fD]; exact e)
 show T.sub (fun _=>True) h.au (.sl k false r.aQ) (.sl k' true [])
 rw[this]; simp[T.sub]⟩
theorem S.OL(l:List Int)(f:Bool)(hl:l.length<2^30):aj Tryz.prog 110 [.row 0 f (.ints l)] (.row 0 false (.ints l)):=by
 refine aj.of Bd.nP (by simp) rfl rfl ?_;refine aaQ.mk (fun hz=>?_) ?_
 ·conv=>whnf
  refine Fork.mk (fun _=>?_) (fun q=>absurd (q.symm.trans ((rfl:true=true))) aM);exact ak.ai5 hz
 ·conv=>whnf
  refine Fork.mk (fun q=>absurd (q.symm.trans ((rfl:false=false))).symm aM) (fun _=>?_);refine .mk (by simp only[mD,mV,Rw.len]; omega) ?_;repeat(refine VC.mk (by simp only[mD,mV,Rw.len]; omega) ?_)
  exact ak.ahR rfl
def zy(p:aB)(q:Prop'):List Int:=bif decide ((q.start.length:Int)>0) then q.start else p.initial
def gq(p:aB)(q:Prop'):Int:=bif rO p q !=0 then rO p q else eF (!(iF p).cover||q.kind !=1) 7
theorem KZ{p:aB}{q:Prop'}(h:rO p q=0):aW p=0:=by
 unfold rO at h;obtain⟨h1,_⟩:=bz nz h;exact EP h1
theorem YO{p:aB}{q:Prop'}(h:rO p q=0):gq p q=eF (!(bif aW p !=0 then Gw else iF p).cover||q.kind !=1) 7:=by
 have h2:=KZ h;rw[gq,show(rO p q !=0)=false by simp[h],show(aW p !=0)=false by simp[h2]]; rfl
theorem S.oK(p:aB)(q:Prop')(hp:dJ p)(hq:uN q):aj Tryz.prog 45 [.dat (.fM p),.dat (.prop q)] (.int (gq p q)):=by
 refine aj.of Bd.oK (by simp) rfl rfl ?_;refine ah.pure (S.eU p q hp hq) rfl ?_;refine⟨fun h1=>?_,fun h1=>?_⟩
 ·conv=>whnf
  exact ak.int (by rw[gq,h1]; rfl)
 rw[YO (EP h1)];refine ah.pure (S.iG p hp) rfl ?_;repeat(refine VC.mk (by first|exact id|(intro h; rw[h]; rfl)) ?_)
 refine⟨fun h2=>?_,fun h2=>?_⟩
 ·conv=>whnf
  exact ak.int (by rw[h2]; rfl)
 ·conv=>whnf
  exact ak.int (by rw[h2]; rfl)
theorem S.mX(p:aB)(q:Prop')(hp:dJ p)(hq:uN q)(hv:rO p q=0):aj Tryz.prog 81 [.dat (.fM p),.dat (.prop q)] (.bU [.row 0 false (.ints (zy p q)),.int 0]):=by
 have g5:=hp.initial; have q1:=hq.start;refine aj.of Bd.mX (by simp) rfl rfl ?_;refine ah.pure (S.eU p q hp hq) rfl ?_;refine Fork.mk (fun q=>absurd (q.symm.trans ((by simp[hv]))).symm aM) (fun _=>?_);refine⟨fun h2=>?_,fun h2=>?_⟩
 ·conv=>whnf
  refine ah.pure (S.OL q.start false q1) rfl ?_;exact ak.eqv (by rw[zy,show decide ((q.start.length:Int)>0)=true from h2]; rfl)
 ·conv=>whnf
  refine ah.pure (S.OL p.initial false g5) rfl ?_;exact ak.eqv (by rw[zy,show decide ((q.start.length:Int)>0)=false from h2]; rfl)
def Gx(p:aB)(q:Prop')(e:Elem):Bool:= !(agq e.counts (zy p q))&&(e.value==0)
theorem YP{p:aB}{q:Prop'}(hp:dJ p)(hq:uN q):(zy p q).length<2^30:=by
 unfold zy;cases decide ((q.start.length:Int)>0)
 ·exact hp.initial
 ·exact hq.start
theorem S.nK(p:aB)(q:Prop')(e:Elem)(hp:dJ p)(hq:uN q)(he:e.counts.length<2^30)(hv:rO p q=0):aj Tryz.prog 48 [.dat (.fM p),.dat (.prop q),.dat (.elem e)] (.bool (Gx p q e)):=by
 have hst:=YP hp hq;refine aj.of Bd.nK (by simp) rfl rfl ?_;refine ah.pure (S.mX p q hp hq hv) rfl ?_;refine aF.same [5,7,18,19] (fun i:Nat=>[(20,.int i)]) (fun i=>i<=e.counts.length/\(List.range i).any (fun i=>decide (e.counts.getD i 0>0)&& !(Jv (zy p q) i))=false) (fun i=>e.counts.length-i) 0 rfl (by decide) rfl (fun _=>rfl) ⟨by omega,by simp⟩ ⟨⟨_,rfl,rfl⟩,trivial⟩ ?_;refine⟨rfl,?_⟩;rintro i ⟨hi,hall⟩;refine⟨fun h3=>?_,fun h3=>?_⟩
 ·have hi':i<e.counts.length:=by simpa using h3
  repeat(refine VC.mk (by first|exact fun h=>⟨h,h⟩|(simp only[Rw.rng] at *; omega)) ?_)
  refine ah.eY (fun _=>S.slices_Contains_int (zy p q) i false (by omega)) rfl ?_;repeat(refine VC.mk id ?_)
  refine⟨fun h4=>?_,fun h4=>?_⟩
  ·conv=>whnf
   have:agq e.counts (zy p q)=true:=xg.2 ⟨i,hi',h4⟩
   exact ak.bool (by rw[Gx,this]; rfl)
  ·conv=>whnf
   refine .mk (by simp only[okI] at *; omega) ?_;refine⟨i+1,⟨by omega,?_⟩,by omega,⟨⟨_,rfl,rfl⟩,trivial⟩,?_,rfl⟩
   ·rw[ce,dz,hall];simp only[ez,List.any_nil,fk,cv]; exact h4
   ·repeat' (first|exact trivial|exact⟨_,rfl,rfl⟩|constructor)
 ·have hi':e.counts.length<=i:=by simpa using h3
  have ei:i=e.counts.length:=fc hi hi';subst ei;exact ak.bool (by rw[Gx,show agq e.counts (zy p q)=false from hall]; rfl)
theorem Fv{p:aB}{q:Prop'}(h:gq p q=0):rO p q=0:=by
 unfold gq at h;obtain⟨h1,_⟩:=bz nz h;exact EP h1
end Go.Proofs.YtbdbmfccbpfeoaaGreatDoor
