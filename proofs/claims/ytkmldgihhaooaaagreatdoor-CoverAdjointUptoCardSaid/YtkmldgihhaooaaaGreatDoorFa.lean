/-
 A part of the proof. No condition.
-/
import Derived.Test.YtkmldgihhaooaaaGreatDoorRb
import Derived.Test.YtkmldgihhaooaaaGreatDoorLg
import Derived.Test.YtkmldgihhaooaaaGreatDoorKa
namespace Go.Proofs.YtkmldgihhaooaaaGreatDoor
open Go.Ab Go.Proofs
set_option maxRecDepth 100000
def Ef(s:Int):List Int->Nat->Int
 |[],_=> -1
 |x::r,i=>bif s==x then(i:Int) else Ef s r (i+1)
theorem XZ{s:Int}{l:List Int}:decide (0<=Ef s l 0)=l.any fun x=>s==x:=by
 have: ∀ {l:List Int} {i:Nat},0<=Ef s l i↔(l.any fun x=>s==x)=true:=by
  intro l
  induction l with
  |nil=>intro i; simp[Ef]
  |cons x r ih =>
   intro i
   rw[List.any_cons,Bool.or_eq_true,<- ih (i:=i+1)]
   show(0:Int)<=(bif s==x then(i:Int) else Ef s r (i+1))↔_
   generalize (s==x)=b
   cases b<;>simp
 rw[Bool.eq_iff_iff,decide_eq_true_eq]; exact this
theorem S.slices_Index_int(l:List Int)(s:Int)(f:Bool)(hl:l.length<2^40):ak Tryz.prog 115 [.row 0 f (.ints l),.int s] (.int (Ef s l 0)):=by
 refine ak.of Bd.mZ (by simp) rfl rfl ?_
 conv=>whnf
 refine aG.same [0,1,6,7] (fun i:Nat=>[(8,.int i)]) (fun i=>i<=l.length/\Ef s l 0=Ef s (l.drop i) i) (fun i=>l.length-i) 0 rfl (by decide) rfl (fun _=>rfl) ⟨by omega,by simp⟩ ⟨⟨_,rfl,rfl⟩,trivial⟩ ?_
 conv=>whnf
 refine⟨rfl,?_⟩
 rintro i ⟨hi,hall⟩
 conv=>whnf
 refine⟨fun h3=>?_,fun h3=>?_⟩
 ·have hi':i<l.length:=by simpa using h3
  rw[dB 0 hi'] at hall
  simp only[Ef] at hall
  conv=>whnf
  refine .mk (by simp only[Rw.rng] at *; first|omega|(simp_all; done)|(simp_all; omega)) ?_
  conv=>whnf
  refine⟨fun h4=>?_,fun h4=>?_⟩
  ·conv=>whnf
   refine aj.int ?_
   have h4':(s==l.getD i 0)=true:=h4
   rw[hall,h4']; rfl
  ·conv=>whnf
   refine .mk (by simp only[okI] at *; first|omega|(simp_all; done)|(simp_all; omega)) ?_
   conv=>whnf
   refine⟨i+1,⟨by omega,?_⟩,by omega,⟨⟨_,rfl,rfl⟩,trivial⟩,?_,rfl⟩
   ·have h4':(s==l.getD i 0)=false:=h4
    rw[hall,h4']; rfl
   ·repeat' (first|exact trivial|exact⟨_,rfl,rfl⟩|constructor)
 ·conv=>whnf
  refine aj.int ?_
  have hi':l.length<=i:=by simpa using h3
  rw[hall,List.drop_eq_nil_of_le hi']; rfl
def Lm(l:List Int)(s:Int):Bool:=l.any fun x=>s==x
theorem S.slices_Contains_int(l:List Int)(s:Int)(f:Bool)(hl:l.length<2^40):ak Tryz.prog 73 [.row 0 f (.ints l),.int s] (.bool (Lm l s)):=by
 refine ak.of Bd.kL (by simp) rfl rfl ?_
 conv=>whnf
 refine ah.pure (S.slices_Index_int l s f hl) rfl ?_
 conv=>whnf
 exact aj.bool XZ.symm
def uG(n:Nat)(l:List Int):Prop:= ∀ q∈l,0<=q/\q<n
def acM(c l:List Int):Bool:=(List.range c.length).any fun i=>decide (c.getD i 0>0)&& !(Lm l i)
def rX(ex c:List Int)(i:Nat):Bool:=((ex.length:Int)==0)||(List.range i).any fun j=> !(c.getD j 0==0)&&Lm ex j
def Ad(al c:List Int)(i:Nat):Bool:=(List.range i).any fun j=> !(c.getD j 0==0)&&(decide ((al.length:Int)>0)&& !(Lm al j))
def oP(r:Rule)(c:List Int):Bool:= !(Ad r.all c c.length)&&rX r.ex c c.length
theorem I4{ex c:List Int}{i:Nat}:rX ex c (i+1)=(rX ex c i||(!(c.getD i 0==0)&&Lm ex i)):=by
 simp only[rX,List.range_succ,List.any_append,List.any_cons,List.any_nil,Bool.or_false,Bool.or_assoc]
theorem I5{al c:List Int}{i:Nat}:Ad al c (i+1)=(Ad al c i||(!(c.getD i 0==0)&&(decide ((al.length:Int)>0)&& !(Lm al i)))):=by
 simp only[Ad,List.range_succ,List.any_append,List.any_cons,List.any_nil,Bool.or_false]
theorem X0{al c:List Int}{i:Nat}(hi:i<c.length)(h0:(c.getD i 0==0)=false)(h:(decide ((al.length:Int)>0)&& !(Lm al i))=true):Ad al c c.length=true :=
 rY.2 ⟨i,hi,by rw[h0,h]; rfl⟩
theorem S.kM(r:Rule)(c:List Int)(f:Bool)(hr:sG r)(hc:c.length<2^40):ak Tryz.prog 106 [.dat (.rule r),.row 0 f (.ints c)] (.bool (oP r c)):=by
 have g1:=hr.ex; have g2:=hr.all
 refine ak.of Bd.kM (by simp) rfl rfl ?_
 conv=>whnf
 refine aG.same [2,12,13] (fun i:Nat=>[(14,.int i),(5,.bool (rX r.ex c i))]) (fun i=>i<=c.length/\Ad r.all c i=false) (fun i=>c.length-i) 0 rfl (by decide) rfl (fun _=>rfl) ⟨by omega,rfl⟩ ⟨⟨_,rfl,rfl⟩,⟨_,rfl,?_⟩,trivial⟩ ?_
 ·show(V.bool (rX r.ex c 0)).aF=(V.bool ((r.ex.length:Int)==0)).aF
  rw[rX]; simp
 conv=>whnf
 refine⟨rfl,?_⟩
 rintro i ⟨hi,hall⟩
 conv=>whnf
 refine⟨fun h3=>?_,fun h3=>?_⟩
 ·have hi':i<c.length:=by simpa using h3
  conv=>whnf
  refine .mk (by simp only[Rw.rng] at *; first|omega|(simp_all; done)|(simp_all; omega)) ?_
  conv=>whnf
  refine⟨fun h4=>?_,fun h4=>?_⟩
  ·replace h4:(c.getD i 0==0)=true:=h4
   conv=>whnf
   refine .mk (by simp only[okI] at *; first|omega|(simp_all; done)|(simp_all; omega)) ?_
   conv=>whnf
   refine⟨i+1,⟨by omega,by rw[I5,hall,h4]; rfl⟩,by omega,⟨⟨_,rfl,rfl⟩,⟨_,rfl,?_⟩,trivial⟩,?_,rfl⟩
   ·rw[I4,h4]; simp[V.aF]
   ·repeat' (first|exact trivial|exact⟨_,rfl,rfl⟩|constructor)
  ·replace h4:(c.getD i 0==0)=false:=h4
   conv=>whnf
   repeat(refine VC.mk (by first|exact id|exact fun h=>⟨h,h⟩) ?_; conv=>whnf)
   refine ah.gJ (fun _=>S.slices_Contains_int r.ex i false (by omega)) rfl ?_
   conv=>whnf
   repeat(refine VC.mk (by first|exact id|exact fun h=>⟨h,h⟩|(intro h; rw[h]; rfl)) ?_; conv=>whnf)
   refine ah.gJ (fun _=>S.slices_Contains_int r.all i false (by omega)) rfl ?_
   conv=>whnf
   repeat(refine VC.mk id ?_; conv=>whnf)
   refine⟨fun h5=>?_,fun h5=>?_⟩
   ·conv=>whnf
    exact aj.bool (by rw[oP,X0 hi' h4 h5]; rfl)
   ·conv=>whnf
    refine .mk (by simp only[okI] at *; first|omega|(simp_all; done)|(simp_all; omega)) ?_
    conv=>whnf
    refine⟨i+1,⟨by omega,by rw[I5,hall,h4]; simpa using h5⟩,by omega,⟨⟨_,rfl,rfl⟩,⟨_,rfl,?_⟩,trivial⟩,?_,rfl⟩
    ·rw[I4,h4]; simp[V.aF,rQ]
    ·repeat' (first|exact trivial|exact⟨_,rfl,rfl⟩|constructor)
 ·have hi':c.length<=i:=by simpa using h3
  have e:i=c.length:=Nat.le_antisymm hi hi'
  subst e
  conv=>whnf
  exact aj.bool (by rw[oP,hall]; rfl)
structure FT(n:Nat)(r:Rule):Prop where
 src:0<=r.fr/\r.fr<n
 dst:0<=r.to/\r.to<n
 acL:0<=r.dS/\r.dS<n
 aei:0<=r.wX/\r.wX<n
 rsp:r.kind=3->r.response.length=n/\uG n r.response
 exs:uG n r.ex
def Lr(c:List Int):Prop:= ∀ x∈c,0<=x/\x<=1048576
def aS(c:List Int)(i d:Int):List Int:=c.set i.toNat (c.getD i.toNat 0+d)
def fH(c:List Int)(i:Int):List Int:=c.set i.toNat (c.getD i.toNat 0-1)
def rU(r:Rule)(c:List Int)(i:Nat):List Int:=(List.range i).foldl (fun a j=>aS a (r.response.getD j 0) (c.getD j 0)) (List.replicate c.length 0)
def lM(r:Rule)(e:Elem):Option Elem :=
 let c1:=fH e.counts r.fr
 let out (c:List Int):Option Elem:=some ⟨bif decide (r.write>=0) then r.write else e.value,aS c r.to 1⟩
 bif (decide (0<=r.read)&&e.value !=r.read||e.counts.getD r.fr.toNat 0==0) then none else
 bif r.kind==1 then(bif !(oP r c1) then none else out c1) else
 bif r.kind==2 then(bif c1.getD r.dS.toNat 0==0 then none else out (aS (fH c1 r.dS) r.wX 1)) else
 bif r.kind==3 then out (rU r c1 c1.length) else out c1
def mD(r:Rule)(e:Elem):V:=match lM r e with
 |none=>.cO [.agg [.int 0,.row 0 true .nil],.bool false]
 |some x=>.cO [.dat (.elem x),.bool true]
theorem RI(r:Rule)(e:Elem):(mD r e).free=true:=by
 unfold mD; cases lM r e<;>rfl
def O7(r:Rule)(e:Elem):V:=.cO [.dat (.elem ((lM r e).getD ⟨0,[]⟩)),.bool (lM r e).isSome]
theorem Vy{Z:Nat->Prop}{h:Hp}(r:Rule)(e:Elem):T.sub Z h (O7 r e).aF (mD r e).aF:=by
 unfold O7 mD
 cases lM r e with
 |none =>
  show T.sub Z h (.cO [.agg [.int 0,.sl 0 false []],.bool false]) (.cO [.agg [.int 0,.sl 0 true []],.bool false])
  simp[T.sub,T.dJ]
 |some x=>exact aH _
theorem ak.O7{f:FuncId}{r:Rule}{e:Elem}(S:ak Tryz.prog f [.dat (.rule r),.dat (.elem e)] (mD r e)):ak Tryz.prog f [.dat (.rule r),.dat (.elem e)] (O7 r e) :=
 zX.shut S (fun _=>Vy r e) rfl
theorem Lr.get{c:List Int}(h:Lr c){i:Nat}(hi:i<c.length):0<=c.getD i 0/\c.getD i 0<=1048576:=by
 rw[show c.getD i 0=c[i] by simp[hi]]; exact h _ (List.getElem_mem hi)
theorem Eh{h:Hz}{j:Nat}{Z:Nat->Prop}{l:List Int}(hz:Z j)(q:h.get j=some (.row 3 0 (.ints l) [])):T.sub Z h.au (V.row 0 false (.ints l)).aF (V.own j).aF:=by
 show T.sub Z h.au (.sl 0 false (l.map T.int)) (.own j)
 simp only[T.sub]
 refine⟨trivial,hz,?_,by decide,3,?_⟩
 ·rw[iw]; intro t ht; obtain⟨x,_,rfl⟩:=List.mem_map.1 ht; rfl
 ·have:=aQ q
  rw[this]; simp[OV.aA,Rw.aW,V.aW]
def okB(b:Int)(c:List Int):Prop:= ∀ x∈c,-b<=x/\x<=b
theorem okB.get{b:Int}{c:List Int}(h:okB b c)(hb:0<=b)(i:Nat): -b<=c.getD i 0/\c.getD i 0<=b:=by
 by_cases hi:i<c.length
 ·rw[show c.getD i 0=c[i] by simp[hi]]; exact h _ (List.getElem_mem hi)
 ·rw[show c.getD i 0=0 by simp[List.getD_eq_getElem?_getD,List.getElem?_eq_none (by omega:c.length<=i)]]; omega
theorem okB.add{b k:Int}{c:List Int}(h:okB b c)(hb:0<=b)(i d:Int)(hd: -k<=d/\d<=k):okB (b+k) (aS c i d):=by
 intro x hx
 have hk:0<=k:=by omega
 rcases List.mem_or_eq_of_mem_set hx with hx|rfl
 ·have:=h x hx; omega
 ·have:=h.get hb i.toNat; omega
theorem okB.dec{b:Int}{c:List Int}(h:okB b c)(hb:0<=b)(i:Int):okB (b+1) (fH c i):=by
 have:=h.add hb i (-1) (k:=1) ⟨by omega,by omega⟩
 rw[show fH c i=aS c i (-1) by simp only[fH,aS]; rfl]; exact this
theorem Lr.b{c:List Int}(h:Lr c):okB 1048576 c:=fun x hx=>by have:=h x hx; omega
theorem aj.G8{h:Hz}{j:Nat}{v:Int}{l:List Int}(q:h.get j=some (.row 3 0 (.ints l) [])):aj (.cO [.dat (.elem ⟨v,l⟩),.bool true]) (.cO [.agg [.int v,.own j],.bool true]) h:=⟨by
 show T.sub (fun _=>True) h.au (.cO [.agg [.int v,.sl 0 false (l.map T.int)],.bool true]) (.cO [.agg [.int v,.own j],.bool true])
 have:=Eh (Z:=fun _=>True) trivial q
 replace this:T.sub (fun _=>True) h.au (.sl 0 false (l.map T.int)) (.own j):=this
 simp only[T.sub] at this
 simp only[T.sub,T.dJ]
 exact⟨⟨trivial,this,trivial⟩,trivial,trivial⟩⟩
theorem I7{n:Nat}(h:0<n):(bif isZero (.int n) then some Rw.nil else aaD (n:Int).toNat (T.int 0))=some (.ints (List.replicate n 0)):=by
 cases n with
 |zero=>omega
 |succ k=>rfl
theorem Bq{r:Rule}{c:List Int}{i:Nat}:rU r c (i+1)=aS (rU r c i) (r.response.getD i 0) (c.getD i 0):=by
 simp only[rU,List.range_succ,List.foldl_append,List.foldl_cons,List.foldl_nil]
theorem tV{r:Rule}{c:List Int}{i:Nat}:(rU r c i).length=c.length:=by
 induction i with
 |zero=>simp[rU]
 |succ i ih=>rw[Bq]; simp[aS,ih]
theorem acN{r:Rule}{c:List Int}{b:Int}(h:okB b c)(hb:0<=b)(i:Nat):okB (i*b) (rU r c i):=by
 induction i with
 |zero=>intro x hx; simp[rU] at hx; omega
 |succ i ih =>
  rw[Bq]
  have h0:0<=(i:Int)*b:=Int.mul_nonneg (by omega) hb
  have:=ih.add h0 (r.response.getD i 0) (c.getD i 0) (k:=b) (h.get hb i)
  rw[show((i+1:Nat):Int)*b=i*b+b by rw[Int.natCast_add,Int.add_mul]; simp]; exact this
abbrev mF(l:List Int):OV:=.row 3 0 (.ints l) []
theorem S.tX(r:Rule)(e:Elem)(hr:sG r)(hp:FT e.counts.length r)(hc:Lr e.counts)(hl:e.counts.length<=6):ak Tryz.prog 67 [.dat (.rule r),.dat (.elem e)] (mD r e):=by
 obtain⟨f1,f2⟩:=hp.src
 obtain⟨d1,d2⟩:=hp.dst
 obtain⟨p1,p2⟩:=hp.acL
 obtain⟨q1,q2⟩:=hp.aei
 have hfr:=hc.get (i:=r.fr.toNat) (by omega)
 refine ak.of Bd.tX (by simp) rfl (RI r e) ?_
 conv=>whnf
 repeat(refine VC.mk (by first|exact id|exact fun h=>⟨h,h⟩|(intro h; rw[h]; rfl)|(intro h; (repeat' apply And.intro)<;>first|exact h|omega|(simp only[Rw.rP]; omega)|(simp only[Rw.rng]; omega))) ?_; conv=>whnf)
 refine⟨fun h1=>?_,fun h1=>?_⟩
 ·conv=>whnf
  refine aj.eqv ?_
  rw[mD,lM,h1]; rfl
 have hl1:(fH e.counts r.fr).length=e.counts.length:=by simp[fH]
 conv=>whnf
 repeat(refine VC.mk (by first|(simp only[nK,nT,Rw.len]; omega)|(simp only[okI,Rw.rng] at *; first|omega|(simp_all; done)|(simp_all; omega))) ?_; conv=>whnf)
 refine⟨fun h2=>?_,fun h2=>?_⟩
 ·conv=>whnf
  refine ah.lend (S.kM r (fH e.counts r.fr) false hr (by omega)) (And.intro (aH _) (And.intro (Eh trivial rfl) trivial)) rfl rfl ?_
  conv=>whnf
  refine⟨fun h3=>?_,fun h3=>?_⟩
  ·conv=>whnf
   refine aj.eqv ?_
   rw[mD,lM,h1,h2,h3]; rfl
  have hB:=hc.b.dec (by omega) r.fr
  have hB1:=hB.get (by omega) r.to.toNat
  conv=>whnf
  repeat(refine VC.mk (by first|(simp only[Rw.rng,List.length_set]; omega)|(simp only[okI,fH] at *; omega)) ?_; conv=>whnf)
  refine⟨fun h4=>?_,fun h4=>?_⟩
  ·replace h4:decide (r.write>=0)=true:=h4
   have hS:mD r e= .cO [.dat (.elem ⟨r.write,aS (fH e.counts r.fr) r.to 1⟩),.bool true]:=by rw[mD,lM,h1,h2,h3,h4]; rfl
   conv=>whnf
   rw[hS]
   exact aj.G8 rfl
  ·replace h4:decide (r.write>=0)=false:=h4
   have hS:mD r e= .cO [.dat (.elem ⟨e.value,aS (fH e.counts r.fr) r.to 1⟩),.bool true]:=by rw[mD,lM,h1,h2,h3,h4]; rfl
   conv=>whnf
   rw[hS]
   exact aj.G8 rfl
 conv=>whnf
 refine⟨fun h5=>?_,fun h5=>?_⟩
 ·have hB:=hc.b.dec (by omega) r.fr
  have hB1:=hB.get (by omega) r.dS.toNat
  have hB2:=hB.dec (by omega) r.dS
  have hB3:=hB2.get (by omega) r.wX.toNat
  have hB4:=hB2.add (by omega) r.wX 1 (k:=1) ⟨by omega,by omega⟩
  have hB5:=hB4.get (by omega) r.to.toNat
  conv=>whnf
  repeat(refine VC.mk (by first|(simp only[Rw.rng,List.length_set]; omega)|(simp only[fH,aS] at *; omega)) ?_; conv=>whnf)
  refine⟨fun h6=>?_,fun h6=>?_⟩
  ·replace h6:((fH e.counts r.fr).getD r.dS.toNat 0==0)=true:=h6
   conv=>whnf
   refine aj.eqv ?_
   rw[mD,lM,h1,h2,h5,h6]; rfl
  ·replace h6:((fH e.counts r.fr).getD r.dS.toNat 0==0)=false:=h6
   conv=>whnf
   repeat(refine VC.mk (by first|(simp only[Rw.rng,List.length_set]; omega)|(simp only[okI,fH,aS] at *; omega)) ?_; conv=>whnf)
   refine⟨fun h4=>?_,fun h4=>?_⟩
   ·replace h4:decide (r.write>=0)=true:=h4
    have hS:mD r e= .cO [.dat (.elem ⟨r.write,aS (aS (fH (fH e.counts r.fr) r.dS) r.wX 1) r.to 1⟩),.bool true]:=by rw[mD,lM,h1,h2,h5,h6,h4]; rfl
    conv=>whnf
    rw[hS]
    exact aj.G8 rfl
   ·replace h4:decide (r.write>=0)=false:=h4
    have hS:mD r e= .cO [.dat (.elem ⟨e.value,aS (aS (fH (fH e.counts r.fr) r.dS) r.wX 1) r.to 1⟩),.bool true]:=by rw[mD,lM,h1,h2,h5,h6,h4]; rfl
    conv=>whnf
    rw[hS]
    exact aj.G8 rfl
 conv=>whnf
 refine⟨fun h6=>?_,fun h6=>?_⟩
 ·have hB:=hc.b.dec (by omega) r.fr
  obtain⟨rs1,rs2⟩:=hp.rsp (beq_iff_eq.1 h6)
  conv=>whnf
  have hm:=I7 (n:=(fH e.counts r.fr).length) (by omega)
  simp only[fH] at hm
  rw[hm]
  conv=>whnf
  refine .mk (by simp only[List.length_set]; omega) ?_
  conv=>whnf
  refine aG.objs 60 [2,3,4,78,79] (fun i:Nat=>[(80,.int i),(7,.own 45)]) (fun i=>[(0,.box 86 19 (.dat (.rule r))),(1,.box 35 3 (.dat (.elem e))),(2,.box 35 3 (.agg [.int 0,.row 0 true .nil])),(25,mF (fH e.counts r.fr)),(45,mF (rU r (fH e.counts r.fr) i))]) (fun i=>i<=(fH e.counts r.fr).length) (fun i=>(fH e.counts r.fr).length-i) 0 [0,1,2,25,45] rfl (by decide) (fun _=>rfl) (Nat.zero_le _) ?_ ?_ ?_
  ·exact(sR rfl)
  ·exact⟨⟨rfl,nofun,rfl,rfl,rfl,_,rfl,rfl,rfl,aI.of_eq rfl⟩,⟨rfl,nofun,rfl,rfl,rfl,_,rfl,rfl,rfl,aI.of_eq rfl⟩,⟨rfl,nofun,rfl,rfl,rfl,_,rfl,rfl,rfl,aI.of_eq rfl⟩,⟨rfl,nofun,rfl,rfl,rfl,_,rfl,rfl,rfl,aI.of_eq rfl⟩,⟨rfl,nofun,rfl,rfl,rfl,_,rfl,rfl,rfl,aI.of_eq rfl⟩,trivial⟩
  conv=>whnf
  refine⟨(sR rfl),rfl,?_⟩
  rintro i hi
  have hn6:(i:Int)*1048577<=6*1048577:=Int.mul_le_mul_of_nonneg_right (by omega) (by omega)
  have hn0:0<=(i:Int)*1048577:=Int.mul_nonneg (by omega) (by omega)
  have hRB:=acN hB (by omega) (r:=r) i
  have hRl:(rU r (fH e.counts r.fr) i).length=e.counts.length:=by rw[tV,hl1]
  conv=>whnf
  refine⟨fun g1=>?_,fun g1=>?_⟩
  ·have hi':i<(fH e.counts r.fr).length:=by
    have:(i:Int)<((fH e.counts r.fr).length:Int):=of_decide_eq_true g1
    omega
   have hir:i<r.response.length:=by omega
   obtain⟨q1,q2⟩:0<=r.response.getD i 0/\r.response.getD i 0<e.counts.length:=by
    rw[show r.response.getD i 0=r.response[i] by simp[hir]]; exact rs2 _ (List.getElem_mem hir)
   have hR1:=hRB.get hn0 (r.response.getD i 0).toNat
   have hR2:=hB.get (by omega) i
   conv=>whnf
   repeat(refine VC.mk (by first|(first|(simp only[Rw.rng,tV]; omega)|(simp only[okI,fH,Int.toNat_natCast] at *; omega))|(simp only[Rw.rng] at *; first|omega|(simp_all; done)|(simp_all; omega))) ?_; conv=>whnf)
   refine⟨i+1,[0,1,2,25,45],by omega,by omega,(sR rfl),(sR rfl),⟨rfl,nofun,rfl,rfl,rfl,_,rfl,rfl,rfl,aI.of_eq rfl⟩,⟨rfl,nofun,rfl,rfl,rfl,_,rfl,rfl,rfl,aI.of_eq rfl⟩,⟨rfl,nofun,rfl,rfl,rfl,_,rfl,rfl,rfl,aI.of_eq rfl⟩,⟨rfl,nofun,rfl,rfl,rfl,_,rfl,rfl,rfl,aI.of_eq rfl⟩,⟨rfl,nofun,rfl,rfl,rfl,_,rfl,rfl,rfl,aI.of_eq ?_⟩,trivial⟩
   rw[Bq]; rfl
  have hi':i=(fH e.counts r.fr).length:=by
   have: ¬ ((i:Int)<((fH e.counts r.fr).length:Int)):=of_decide_eq_false g1
   omega
  subst hi'
  have hR1:=hRB.get hn0 r.to.toNat
  conv=>whnf
  repeat(refine VC.mk (by first|(simp only[Rw.rng,tV]; omega)|(simp only[okI,fH,Int.toNat_natCast] at *; omega)) ?_; conv=>whnf)
  refine⟨fun h4=>?_,fun h4=>?_⟩
  ·replace h4:decide (r.write>=0)=true:=h4
   have hS:mD r e= .cO [.dat (.elem ⟨r.write,aS (rU r (fH e.counts r.fr) (fH e.counts r.fr).length) r.to 1⟩),.bool true]:=by rw[mD,lM,h1,h2,h5,h6,h4]; rfl
   conv=>whnf
   rw[hS]
   exact aj.G8 rfl
  ·replace h4:decide (r.write>=0)=false:=h4
   have hS:mD r e= .cO [.dat (.elem ⟨e.value,aS (rU r (fH e.counts r.fr) (fH e.counts r.fr).length) r.to 1⟩),.bool true]:=by rw[mD,lM,h1,h2,h5,h6,h4]; rfl
   conv=>whnf
   rw[hS]
   exact aj.G8 rfl
 ·have hB:=hc.b.dec (by omega) r.fr
  have hB1:=hB.get (by omega) r.to.toNat
  conv=>whnf
  repeat(refine VC.mk (by first|(simp only[Rw.rng,List.length_set]; omega)|(simp only[okI,fH] at *; omega)) ?_; conv=>whnf)
  refine⟨fun h4=>?_,fun h4=>?_⟩
  ·replace h4:decide (r.write>=0)=true:=h4
   have hS:mD r e= .cO [.dat (.elem ⟨r.write,aS (fH e.counts r.fr) r.to 1⟩),.bool true]:=by rw[mD,lM,h1,h2,h5,h6,h4]; rfl
   conv=>whnf
   rw[hS]
   exact aj.G8 rfl
  ·replace h4:decide (r.write>=0)=false:=h4
   have hS:mD r e= .cO [.dat (.elem ⟨e.value,aS (fH e.counts r.fr) r.to 1⟩),.bool true]:=by rw[mD,lM,h1,h2,h5,h6,h4]; rfl
   conv=>whnf
   rw[hS]
   exact aj.G8 rfl
end Go.Proofs.YtkmldgihhaooaaaGreatDoor
namespace Go.Proofs.YtkmldgihhaooaaaGreatDoor
open Go.Ab Go.Proofs
set_option maxRecDepth 100000
theorem aaE{l:List Int}{s:Int}:Lm l s=true↔s∈l:=by
 simp only[Lm,List.any_eq_true,beq_iff_eq]
 constructor
 ·rintro⟨x,h,rfl⟩; exact h
 ·intro h; exact⟨s,h,rfl⟩
theorem okH{ρ:Nat->Nat}{nx pn c n:Nat}{h:Hz}{s:List Nat}{o:OV}(a:(Nat.blt c nx&&(!(Nat.blt c pn)||Nat.beq n c)&&oV n s&&(o.good nx&&o.D8))=true)(b:(h.get n).map OV.aA=some o.aA):Nat.blt c nx=true/\(Nat.blt c pn=true->n=c)/\oV n s=true/\o.good nx=true /\
   ∃ o',h.get n=some o'/\o'.aA.ty=o.aA.ty/\o'.aA.k=o.aA.k/\aI (T.bQ ρ o.aA.l) o'.aA.l:=by
 simp only[Bool.and_eq_true,Bool.or_eq_true,Bool.not_eq_true'] at a
 obtain⟨⟨⟨a1,a2⟩,a3⟩,a4,a5⟩:=a
 obtain⟨o',b1,b2⟩:=Option.map_eq_some_iff.1 b
 exact⟨a1,fun h=>a2.elim (fun q=>by rw[q] at h; cases h) eY,a3,a4,o',b1,by rw[b2],by rw[b2],by rw[OV.dU a5,b2]; exact .refl _⟩
theorem okJ{ρ:Nat->Nat}{nx pn c n:Nat}{h:Hz}{s:List Nat}{o o':OV}(a:(Nat.blt c nx&&(!(Nat.blt c pn)||Nat.beq n c)&&oV n s)=true)(g:o.good nx=true)(b:h.get n=some o')(t:o'.aA.ty=o.aA.ty/\o'.aA.k=o.aA.k)(l:aI (T.bQ ρ o.aA.l) o'.aA.l):Nat.blt c nx=true/\(Nat.blt c pn=true->n=c)/\oV n s=true/\o.good nx=true /\
   ∃ o',h.get n=some o'/\o'.aA.ty=o.aA.ty/\o'.aA.k=o.aA.k/\aI (T.bQ ρ o.aA.l) o'.aA.l:=by
 simp only[Bool.and_eq_true,Bool.or_eq_true,Bool.not_eq_true'] at a
 obtain⟨⟨a1,a2⟩,a3⟩:=a
 exact⟨a1,fun h=>a2.elim (fun q=>by rw[q] at h; cases h) eY,a3,g,o',b,t.1,t.2,l⟩
theorem okF{ρ:Nat->Nat}{nx pn c n:Nat}{h:Hz}{s:List Nat}{o o':OV}(q1:Nat.blt c nx=true)(q2:Nat.blt c pn=true->n=c)(q3:oV n s=true)(q4:(o.good nx&&o.D8)=true)(q5:h.get n=some o')
  (q6:o'.aA.ty=o.aA.ty/\o'.aA.k=o.aA.k) (q7:o.aA.l=o'.aA.l):Nat.blt c nx=true/\(Nat.blt c pn=true->n=c)/\oV n s=true/\o.good nx=true /\
   ∃ o',h.get n=some o'/\o'.aA.ty=o.aA.ty/\o'.aA.k=o.aA.k/\aI (T.bQ ρ o.aA.l) o'.aA.l:=by
 rw[Bool.and_eq_true] at q4
 exact⟨q1,q2,q3,q4.1,o',q5,q6.1,q6.2,aI.of_eq ((OV.dU q4.2 ρ).trans q7)⟩
theorem bz{c:Bool}{a b:Int}(ha:c=true->a≠0)(h:(bif c then a else b)=0):c=false/\b=0:=by
 cases c with
 |true=>exact absurd h (ha rfl)
 |false=>exact⟨rfl,h⟩
theorem nz{a:Int}(h:(a !=0)=true):a≠0:=by simpa using h
theorem kN: ∀ {l:List Int},bH l=0-> ∀ x∈l,x=0:=by
 intro l
 induction l with
 |nil=>intro _ x h; cases h
 |cons a r ih =>
  intro h x hx
  simp only[bH] at h
  split at h
  ·rename_i h0
   rcases List.mem_cons.1 hx with rfl|hx
   ·exact h0
   ·exact ih h x hx
  ·rename_i h0; exact absurd h h0
structure Ns(p:aP):Prop where
 pos:0<p.states.length
 states:p.states.length<=6
 values:p.values.length<=3
 acO:p.rules.length<=8
 init:jo p.initial p.states.length=0
 start:p.initial≠[]
 rule: ∀ i,i<p.rules.length->gQ p i=0
theorem Nu{p:aP}(h:bg p=0):Ns p:=by
 unfold bg at h
 obtain⟨_,h⟩:=bz (fun _=>by decide) h
 obtain⟨_,h⟩:=bz (fun _=>by decide) h
 obtain⟨h0,h⟩:=bz (fun _=>by decide) h
 obtain⟨h1,h⟩:=bz (fun _=>by decide) h
 obtain⟨_,h⟩:=bz nz h
 obtain⟨_,h⟩:=bz (fun _=>by decide) h
 obtain⟨_,h⟩:=bz (fun _=>by decide) h
 obtain⟨h2,h⟩:=bz nz h
 obtain⟨h3,h⟩:=bz nz h
 have h2':yw p=0:=by simpa using h2
 have h3':Df p=0:=by simpa using h3
 have g:=kN h2'
 simp only[vS,Bool.or_eq_false_iff,decide_eq_false_iff_not] at h1
 refine⟨?_,by omega,by omega,by omega,g _ (by simp),?_,fun i hi=>?_⟩
 ·have:(p.states.length:Int)≠0:=by simpa using h0
  omega
 ·intro e
  have:=g (dM ((p.initial.length:Int)==0) 1) (by simp)
  rw[e] at this; exact absurd this (by decide)
 ·exact kN h3' _ (List.mem_map.2 ⟨i,by simpa using hi,rfl⟩)
theorem uS{x:Int}{n:Nat}(h:qN x n=false):0<=x/\x<n:=by
 simp only[qN,Bool.or_eq_false_iff,decide_eq_false_iff_not] at h; omega
theorem Dh{x:Int}{n:Nat}(h:dh x n=0):0<=x/\x<n:=by
 refine uS ?_
 unfold dh dM at h
 cases hb:qN x n with
 |false=>rfl
 |true=>rw[hb] at h; exact absurd h (by decide)
theorem FU{l:List Int}{n:Nat}(h:jo l n=0):uG n l:=by
 unfold jo at h
 obtain⟨h,_⟩:=bz (fun _=>by decide) h
 rw[List.any_eq_false] at h
 exact fun q hq=>uS (by simpa using h q hq)
theorem O8{n:Nat}: ∀ {l:List Int},pI l n=0->uG n l:=by
 intro l
 induction l with
 |nil=>intro _ q h; cases h
 |cons x r ih =>
  intro h q hq
  simp only[pI] at h
  split at h
  ·rename_i h0
   rcases List.mem_cons.1 hq with rfl|hq
   ·exact Dh h0
   ·exact ih h q hq
  ·rename_i h0; exact absurd h h0
theorem Vz{k:Int}(h:uN k 1=true):k=1\/k=2\/k=3:=by
 unfold uN at h
 cases h1:(k==1) with
 |true=>exact .inl (beq_iff_eq.1 h1)
 |false =>
  cases h2:(k==2) with
  |true=>exact .inr (.inl (beq_iff_eq.1 h2))
  |false =>
   cases h3:(k==3) with
   |true=>exact .inr (.inr (beq_iff_eq.1 h3))
   |false=>rw[h1,h2,h3] at h; cases hb:(k==4||k==5)<;>rw[hb] at h<;>cases h
structure Uo(n:Nat)(p:aP)(r:Rule):Prop where
 place:FT n r
 kind:r.kind=1\/r.kind=2\/r.kind=3
 af7:uG n r.all
 ex1:r.kind≠1->r.ex=[]/\r.all=[]
 rd:qN r.read p.values.length=false\/r.read= -1
 wr:qN r.write p.values.length=false\/r.write= -1
theorem sH{p:aP}{v:Int}(h:jH p v=0):qN v p.values.length=false\/v= -1:=by
 unfold jH dM at h
 have h': ¬ (v< -1\/v>=(p.values.length:Int)):=by
  intro q
  have:(decide (v< -1)||decide (v>=(p.values.length:Int)))=true:=by simpa using q
  rw[this] at h; exact absurd h (by decide)
 by_cases e:v= -1
 ·exact .inr e
 ·left
  simp only[qN,Bool.or_eq_false_iff,decide_eq_false_iff_not]; omega
theorem Ur{p:aP}{i:Nat}(hv:Ns p)(ht:p.topology=1)(hi:i<p.rules.length):Uo p.states.length p (p.rules.getD i default):=by
 have h:=hv.rule i hi
 have hpos:=hv.pos
 simp only[gQ,qO] at h
 generalize (p.rules.getD i default)=r at h ⊢
 obtain⟨_,h⟩:=bz (fun _=>by decide) h
 obtain⟨hb,h⟩:=bz (fun _=>by decide) h
 obtain⟨he,h⟩:=bz nz h
 rw[Il,Bool.or_eq_false_iff] at he
 rw[ht,Bool.or_eq_false_iff] at hb
 have hk:=Vz (show uN r.kind 1=true by simpa using hb.1)
 have hu:lS r 1=false:=by rw[Ae (by omega)]; exact hb.2
 have hun:=Ls hu
 have hpf:r.kind≠2->r.kind≠5->r.dS=0/\r.wX=0:=by
  intro k1 k2
  simp only[lS,Us,Bool.or_eq_false_iff] at hu
  have h3:=hu.2.2.1
  simp only[beq_eq_false_iff_ne.2 k1,beq_eq_false_iff_ne.2 k2,Bool.not_false,Bool.true_and,Bool.or_eq_false_iff] at h3
  exact⟨RJ h3.1,RJ h3.2⟩
 have h00:(0:Int)<=0/\(0:Int)<p.states.length:=⟨by omega,by omega⟩
 have pn:uG p.states.length []:=fun q hq=>by cases hq
 rcases hk with e|e|e
 ·rw[e] at h
  have g:=kN h
  have⟨a,b⟩:=hpf (by omega) (by omega)
  exact⟨⟨uS he.1,uS he.2,by rw[a]; exact h00,by rw[b]; exact h00,fun q=>by omega,FU (g (jo r.ex p.states.length) (by simp))⟩,.inl e,FU (g (jo r.all p.states.length) (by simp)),fun q=>absurd e q,sH (g (jH p r.read) (by simp)),sH (g (jH p r.write) (by simp))⟩
 ·rw[e] at h
  have g:=kN h
  obtain⟨_,u1,u2,_⟩:=hun.1 (by omega)
  exact⟨⟨uS he.1,uS he.2,Dh (g (dh r.dS p.states.length) (by simp)),Dh (g (dh r.wX p.states.length) (by simp)),fun q=>by omega,by rw[u1]; exact pn⟩,.inr (.inl e),by rw[u2]; exact pn,fun _=>⟨u1,u2⟩,sH (g (jH p r.read) (by simp)),sH (g (jH p r.write) (by simp))⟩
 ·rw[e] at h
  have g:=kN h
  have⟨a,b⟩:=hpf (by omega) (by omega)
  obtain⟨_,u1,u2,_⟩:=hun.1 (by omega)
  have hr:=g (Ei r.response p.states.length) (by simp)
  unfold Ei at hr
  obtain⟨r1,r2⟩:=bz (fun _=>by decide) hr
  exact⟨⟨uS he.1,uS he.2,by rw[a]; exact h00,by rw[b]; exact h00,fun _=>⟨by have q9:(r.response.length:Int)=p.states.length:=(by simpa using r1); omega,O8 r2⟩,by rw[u1]; exact pn⟩,.inr (.inr e),by rw[u2]; exact pn,fun _=>⟨u1,u2⟩,sH (g (jH p r.read) (by simp)),sH (g (jH p r.write) (by simp))⟩
theorem Lu{p:aP}(h:qM p=true):p.topology=1:=by
 simp only[qM,Bool.and_eq_true,beq_iff_eq] at h; exact h.1.1.1
structure zY(p:aP)(e:Elem):Prop where
 valid:Ns p
 plain:qM p=true
 len:e.counts.length=p.states.length
 nums:Lr e.counts
 val:0<=e.value/\e.value<max 1 (p.values.length:Int)
theorem VA{p:aP}(h:Nv p=0):bg p=0/\qM p=true:=by
 unfold Nv at h
 obtain⟨h1,h⟩:=bz nz h
 obtain⟨h2,_⟩:=bz (fun _=>by decide) h
 refine⟨by simpa using h1,?_⟩
 simp only[iV] at h2
 cases hp:qM p with
 |true=>rfl
 |false=>rw[hp] at h2; simp at h2
theorem FV{b:Bool}{n:Int}(h:dM b n=0)(hn:n≠0):b=false:=by
 cases b with
 |false=>rfl
 |true=>exact absurd h hn
theorem Ut{x:Int}:Aa x=true↔0<=x/\x<=1048576:=by simp[Aa]
theorem acP{p:aP}{e:Elem}(h:nR p e=false):e.counts.length=p.states.length/\Lr e.counts/\0<=e.value/\e.value<max 1 (p.values.length:Int):=by
 simp only[nR,Bool.or_eq_false_iff,decide_eq_false_iff_not] at h
 obtain⟨⟨⟨h1,h2⟩,h3⟩,h4⟩:=h
 refine⟨?_,fun x hx=>?_,by omega,by omega⟩
 ·have:(e.counts.length:Int)=p.states.length:=by simpa using h1
  omega
 ·have:e.counts.all Aa=true:=by simpa using h2
  exact Ut.1 (List.all_eq_true.1 this x hx)
theorem aaB{p:aP}{e:Elem}(h:vO p e=0):zY p e:=by
 unfold vO at h
 obtain⟨h1,h⟩:=bz nz h
 obtain⟨h2,h3⟩:=VA (by simpa using h1)
 obtain⟨a,b,c⟩:=acP (FV h (by decide))
 exact⟨Nu h2,h3,a,b,c⟩
theorem zY.Ur{p:aP}{e:Elem}(h:zY p e){i:Nat}(hi:i<p.rules.length):Uo e.counts.length p (p.rules.getD i default):=by
 rw[h.len]; exact YtkmldgihhaooaaaGreatDoor.Ur h.valid (Lu h.plain) hi
theorem yx{α:Type}{c:Bool}{a b:Option α}{x:α}(h:(bif c then a else b)=some x):a=some x\/b=some x:=by
 cases c with
 |true=>exact .inl h
 |false=>exact .inr h
theorem Bv{c:List Int}{i d:Int}:(aS c i d).length=c.length:=by simp[aS]
theorem yA{c:List Int}{i:Int}:(fH c i).length=c.length:=by simp[fH]
theorem VB{r:Rule}{e x:Elem}(h:lM r e=some x):x.counts.length=e.counts.length:=by
 simp only[lM] at h
 have out: ∀ {c:List Int} {v:Int},c.length=e.counts.length->some (⟨v,aS c r.to 1⟩:Elem)=some x->x.counts.length=e.counts.length:=by
  intro c v hc h; cases h; rw[Bv,hc]
 rcases yx h with h|h
 ·cases h
 rcases yx h with h|h
 ·rcases yx h with h|h
  ·cases h
  ·exact out yA h
 rcases yx h with h|h
 ·rcases yx h with h|h
  ·cases h
  ·exact out (by rw[Bv,yA,yA]) h
 rcases yx h with h|h
 ·exact out (by rw[tV,yA]) h
 ·exact out yA h
def xw(p:aP)(e:Elem)(k:Nat):List Elem:=(p.rules.take k).filterMap fun r=>lM r e
theorem RN{p:aP}{e:Elem}{k:Nat}(hk:k<p.rules.length):xw p e (k+1)=xw p e k++(lM (p.rules.getD k default) e).toList:=by
 simp only[xw]
 rw[List.take_add_one,List.filterMap_append]
 simp only[List.getElem?_eq_getElem hk,Option.toList_some,List.getD_eq_getElem?_getD,Option.getD_some]
 cases hf:lM p.rules[k] e with
 |none=>simp[hf]
 |some x=>simp[hf]
theorem LC{p:aP}{e:Elem}{k:Nat}:(xw p e k).length<=k:=by
 have h1:=List.length_filterMap_le (fun r=>lM r e) (p.rules.take k)
 simp at h1; unfold xw; omega
theorem G9{p:aP}{e:Elem}{k:Nat}{x:Elem}(h:x∈xw p e k):x.counts.length=e.counts.length:=by
 obtain⟨r,_,h2⟩:=List.mem_filterMap.1 h
 exact VB h2
def Ac(p:aP)(e:Elem):List Elem:=bif vO p e !=0 then [] else uO (xw p e p.rules.length)
theorem ah.tidy{h:Hz}{i n:Nat}{l:List Elem}{K:V->Hz->Prop}{KW:Nat->V->Hz->Prop}(hi:h.get i=some (dF l))(hn:h.get n=none)(hl:l.length<2^30)(hs:eF l)
  (h1:K (.own i) ((i,some (dF (uO l)))::h)) (h2: ∀ m,K (.oH i 0 (uO l).length) ((i,some (.row 35 3 (.elems (uO l)) (List.replicate m zeroV)))::h)):ah Tryz.prog false none 64 [.own i] h n K KW:=by
 refine ah.X3 (ts:=[.own 0]) (S.sJ l 1 hl hs) rfl rfl rfl rfl hi hn ?_
 rintro t hp (⟨rfl,rfl⟩|⟨m,rfl,rfl⟩)
 ·exact .inl ⟨.own i,dF (uO l),rfl,rfl,rfl,h1⟩
 ·exact .inl ⟨.oH i 0 _,.row 35 3 (.elems (uO l)) (List.replicate m zeroV),rfl,Ej _ _,rfl,h2 m⟩
theorem aj.aej{h:Hz}{j:Nat}{l:List Elem}{c:Int}(q:h.get j=some (dF l)):aj (.cO [.row 3 false (.elems l),.int c]) (.cO [.own j,.int c]) h:=⟨by
 have:=LD (Z:=fun _=>True) trivial q
 show T.sub (fun _=>True) h.au (.cO [.sl 3 false (l.map gG),.int c]) (.cO [.own j,.int c])
 simp only[T.sub,T.dJ]
 replace this:T.sub (fun _=>True) h.au (.sl 3 false (l.map gG)) (.own j):=this
 simp only[T.sub] at this
 exact⟨this,trivial,trivial⟩⟩
theorem aj.aek{h:Hz}{j m:Nat}{l:List Elem}{c:Int}(q:h.get j=some (.row 35 3 (.elems l) (List.replicate m zeroV))):aj (.cO [.row 3 false (.elems l),.int c]) (.cO [.oH j 0 l.length,.int c]) h:=⟨by
 have:=(aj.X4 q).ok
 show T.sub (fun _=>True) h.au (.cO [.sl 3 false (l.map gG),.int c]) (.cO [.oH j 0 l.length,.int c])
 simp only[T.sub,T.dJ]
 replace this:T.sub (fun _=>True) h.au (.sl 3 false (l.map gG)) (.oH j 0 l.length):=this
 simp only[T.sub] at this
 exact⟨this,trivial,trivial⟩⟩
theorem aj.zI{h:Hz}{k:Nat}{c:Int}:aj (.cO [.row 3 false (.elems []),.int c]) (.cO [.row k true .nil,.int c]) h:=⟨by
 show T.sub (fun _=>True) h.au (.cO [.sl 3 false [],.int c]) (.cO [.sl k true [],.int c])
 simp[T.sub,T.dJ]⟩
theorem S.vP(p:aP)(e:Elem)(hp:fM p)(he:e.counts.length<2^30):ak Tryz.prog 37 [.dat (.iU p),.dat (.elem e)] (.cO [.row 3 false (.elems (Ac p e)),.int (vO p e)]):=by
 have hpr:=hp.rules
 refine ak.of Bd.vP (by simp) rfl rfl ?_
 conv=>whnf
 refine ah.pure (S.jI p e hp he) rfl ?_
 conv=>whnf
 refine⟨fun h1=>?_,fun h1=>?_⟩
 ·conv=>whnf
  rw[Ac,h1]
  exact aj.zI
 replace h1:(vO p e !=0)=false:=h1
 have h1':vO p e=0:=Ce h1
 have hF:=aaB h1'
 have hst:=hF.valid.states
 have hlen:=hF.len
 have hS:Ac p e=uO (xw p e p.rules.length):=by rw[Ac,h1]; rfl
 rw[hS,h1']
 conv=>whnf
 refine aG.nil 7 35 3 (by rfl) rfl rfl rfl ?_
 refine aG.objs 3 [3,19,20] (fun i:Nat=>[(21,.int i),(7,.own 2)]) (fun i=>[(1,.box 35 3 (.dat (.elem e))),(2,dF (xw p e i))]) (fun i=>i<=p.rules.length) (fun i=>p.rules.length-i) 0 [1,15] rfl (by decide) (fun _=>rfl) (Nat.zero_le _) ?_ ?_ ?_
 ·exact(sR rfl)
 ·exact⟨⟨rfl,nofun,rfl,rfl,rfl,_,rfl,rfl,rfl,aI.of_eq rfl⟩,⟨rfl,nofun,rfl,rfl,rfl,_,rfl,rfl,rfl,aI.of_eq rfl⟩,trivial⟩
 conv=>whnf
 refine⟨(sR rfl),rfl,?_⟩
 rintro i hi
 have hpl:=LC (p:=p) (e:=e) (k:=i)
 conv=>whnf
 refine⟨fun h3=>?_,fun h3=>?_⟩
 ·have hi':i<p.rules.length:=by simpa using h3
  have hstep:=RN (e:=e) hi'
  conv=>whnf
  refine .mk (by simp only[Rw.rng] at *; first|omega|(simp_all; done)|(simp_all; omega)) ?_
  conv=>whnf
  refine ah.pure (ak.O7 (S.tX (p.rules.getD i default) e (hp.rule i) (hF.Ur hi').place hF.nums (by omega))) rfl ?_
  conv=>whnf
  refine⟨fun h4=>?_,fun h4=>?_⟩
  ·obtain⟨x,hx⟩:=Option.isSome_iff_exists.1 h4
   rw[show lM (p.rules.getD i default) e=some x from hx] at hstep
   rw[hx]
   conv=>whnf
   repeat(refine VC.mk (by first|(show((xw p e i).length+(0+1))*32<=140737488355328/\(xw p e i).length+(0+1)<=1152921504606846976; omega)|(simp only[okI] at *; first|omega|(simp_all; done)|(simp_all; omega))) ?_; conv=>whnf)
   refine⟨i+1,[1,21],by omega,by omega,(sR rfl),(sR rfl),⟨rfl,nofun,rfl,rfl,rfl,_,rfl,rfl,rfl,aI.of_eq rfl⟩,⟨rfl,nofun,rfl,rfl,rfl,_,rfl,rfl,rfl,aI.of_eq ?_⟩,trivial⟩
   rw[hstep]
   show List.map gG _++[]=List.map gG _++[gG _]
   simp
  ·replace h4:(lM (p.rules.getD i default) e).isSome=false:=h4
   rw[Option.isSome_eq_false_iff,Option.isNone_iff_eq_none] at h4
   rw[h4] at hstep
   conv=>whnf
   refine .mk (by simp only[okI] at *; first|omega|(simp_all; done)|(simp_all; omega)) ?_
   conv=>whnf
   refine⟨i+1,[1,2],by omega,by omega,(sR rfl),(sR rfl),⟨rfl,nofun,rfl,rfl,rfl,_,rfl,rfl,rfl,aI.of_eq rfl⟩,⟨rfl,nofun,rfl,rfl,rfl,_,rfl,rfl,rfl,aI.of_eq ?_⟩,trivial⟩
   rw[hstep]; simp
 ·have hi':i=p.rules.length:=by
   have: ¬ ((i:Int)<(p.rules.length:Int)):=of_decide_eq_false h3
   omega
  subst hi'
  conv=>whnf
  refine ah.tidy rfl rfl (by omega) (fun x hx=>by rw[G9 hx]; omega) ?_ (fun m=>?_)
  ·conv=>whnf
   exact aj.aej rfl
  ·conv=>whnf
   exact aj.aek rfl
theorem Vx(p:aP)(e:Elem)(h:p.rules.length<2^30):(Ac p e).length<2^30:=by
 unfold Ac
 cases (vO p e !=0) with
 |true=>show([]:List Elem).length<_; decide
 |false =>
  have h1:=Em (oW (xw p e p.rules.length)) (oW (xw p e p.rules.length)).length
  have h2:=FW (xw p e p.rules.length)
  have h3:=LC (p:=p) (e:=e) (k:=p.rules.length)
  show(tJ _ _).length<_
  omega
theorem O5(p:aP)(e:Elem)(he:e.counts.length<2^30):eF (Ac p e):=by
 unfold Ac
 cases (vO p e !=0) with
 |true=>intro x hx; cases hx
 |false=>intro x hx; rw[G9 ((uZ _ _).1 hx)]; omega
theorem iG{a b:List Int}(h:iF a b=true)(i:Nat):a.getD i 0<=b.getD i 0:=by
 obtain⟨h1,h2⟩:=jF.1 h
 by_cases hi:i<a.length
 ·exact h2 i hi
 ·rw[show a.getD i 0=0 by simp[List.getD_eq_getElem?_getD,List.getElem?_eq_none (by omega:a.length<=i)],show b.getD i 0=0 by simp[List.getD_eq_getElem?_getD,List.getElem?_eq_none (by omega:b.length<=i)]]
  exact Int.le_refl _
theorem FX{c:List Int}{i d:Int}{j:Nat}:(aS c i d).getD j 0=if j=i.toNat/\j<c.length then c.getD j 0+d else c.getD j 0:=by
 unfold aS
 rw[List.getD_eq_getElem?_getD,List.getElem?_set]
 by_cases h:i.toNat=j
 ·subst h
  by_cases h2:i.toNat<c.length
  ·simp[h2]
  ·simp[h2]
 ·rw[if_neg h,if_neg (fun q=>h q.1.symm),List.getD_eq_getElem?_getD]
theorem RH{ex a b:List Int}(h:iF a b=true)(ha: ∀ i,0<=a.getD i 0)(q:rX ex a a.length=true):rX ex b b.length=true:=by
 unfold rX at q ⊢
 rw[Bool.or_eq_true] at q ⊢
 rcases q with q|q
 ·exact .inl q
 ·right
  rw[rY] at q ⊢
  obtain⟨i,h1,h2⟩:=q
  rw[Bool.and_eq_true] at h2
  refine⟨i,by rw[<- (jF.1 h).1]; exact h1,?_⟩
  rw[Bool.and_eq_true]
  refine⟨?_,h2.2⟩
  have h3:a.getD i 0≠0:=by simpa using h2.1
  have h4:=iG h i
  have h5:=ha i
  have:b.getD i 0≠0:=by omega
  simpa using this
theorem Vr{c:List Int}{n:Nat}:Ad [] c n=false:=by
 unfold Ad
 rw[List.any_eq_false]
 intro j _
 simp
theorem aaC: ∀ {l:List Rule} {acc:Bool},l.foldl KL acc=false->acc=false/\ ∀ r∈l,r.all=[]:=by
 intro l
 induction l with
 |nil=>intro acc h; exact⟨h,fun r hr=>by cases hr⟩
 |cons x l ih =>
  intro acc h
  obtain⟨h1,h2⟩:=ih h
  simp only[KL,Bool.or_eq_false_iff] at h1
  refine⟨h1.1,fun r hr=>?_⟩
  rcases List.mem_cons.1 hr with rfl|hr
  ·exact len_nil h1.2
  ·exact h2 r hr
theorem C9{p:aP}{e:Elem}(h1:bg p=0)(h2:(iV p).cover=true)(h3:nR p e=false):vO p e=0:=by
 have:Nv p=0:=by
  unfold Nv
  rw[show(bg p !=0)=false by simp[h1],h2]; rfl
 rw[vO,this,h3]; rfl
structure uH(q:Prop'):Prop where
 start:q.start.length<2^30
 bad:q.bad.length<2^30
 adjacent:q.adjacent.length<2^30
 goal:q.goal.length<2^30
 cnt: ∀ i,(q.bad.getD i default).states.length<2^30
def vT(c:Cnt):Bool:=((c.states.length:Int)==0||decide (c.least<1))||decide (c.least>3)
def X5(n:Int)(c:Cnt):Int:=bH [jo c.states n,dM (vT c) 1]
def Bz(l:List Cnt)(n:Int):Int:=bH (l.map (X5 n))
def RP(p:aP)(l:List Int):Int:=bif (l.length:Int)==0 then 0 else bif p.topology==1 then 6 else bif (l.length:Int) !=2 then 1 else bH [dh (l.getD 0 0) p.states.length,dh (l.getD 1 0) p.states.length]
def y7(q:Prop'):Bool:=((q.kind==1)&&decide ((q.goal.length:Int)>0))||(!(q.kind==1)&&(decide ((q.bad.length:Int)>0)||decide ((q.adjacent.length:Int)>0)))
def pV(p:aP)(q:Prop'):Int :=
 let n:Int:=p.states.length
 bif bg p !=0 then bg p else bif !(validName q.name) then 2 else bif !(q.kind==1)&&q.kind !=2 then 1 else bif y7 q then 1 else
 bif jo q.start n !=0 then jo q.start n else bif q.start.any (fun x=> !(Lm p.initial x)) then 5 else
 bif !(q.kind==1) then bH [jo q.goal n,dM ((q.goal.length:Int)==0) 1] else
 bH [dM (((q.bad.length:Int)==0)&&((q.adjacent.length:Int)==0)) 1,dM (decide ((q.bad.length:Int)>3)) 4,Bz q.bad n,RP p q.adjacent]
theorem S.mG(l:List Cnt)(n:Int)(f:Bool)(hl:l.length<2^30)(hs: ∀ i,(l.getD i default).states.length<2^30):ak Tryz.prog 112 [.row 3 f (.cnts l),.int n] (.int (Bz l n)):=by
 refine ak.of Bd.mG (by simp) rfl rfl ?_
 conv=>whnf
 refine aG.same [1,8,9] (fun i:Nat=>[(10,.int i)]) (fun i=>i<=l.length/\Bz l n=bH ((l.drop i).map (X5 n))) (fun i=>l.length-i) 0 rfl (by decide) rfl (fun _=>rfl) ⟨by omega,by simp[Bz]⟩ ⟨⟨_,rfl,rfl⟩,trivial⟩ ?_
 conv=>whnf
 refine⟨rfl,?_⟩
 rintro i ⟨hi,hall⟩
 conv=>whnf
 refine⟨fun h3=>?_,fun h3=>?_⟩
 ·have hi':i<l.length:=by simpa using h3
  rw[dB default hi',List.map_cons] at hall
  simp only[bH] at hall
  have hc:=hs i
  conv=>whnf
  refine .mk (by simp only[Rw.rng] at *; omega) ?_
  conv=>whnf
  refine ah.pure (S.dY (l.getD i default).states n false (by omega)) rfl ?_
  conv=>whnf
  repeat(refine VC.mk (by first|exact id|(intro h; rw[h]; rfl)) ?_; conv=>whnf)
  refine ah.pure (S.bU (vT (l.getD i default)) 1) rfl ?_
  conv=>whnf
  refine ah.pure (S.bK [jo (l.getD i default).states n,dM (vT (l.getD i default)) 1] true (show 2<2^40 by decide)) rfl ?_
  conv=>whnf
  refine⟨fun h4=>?_,fun h4=>?_⟩
  ·conv=>whnf
   refine aj.int ?_
   have h4':X5 n (l.getD i default)≠0:=nz h4
   rw[hall,if_neg h4']; rfl
  ·conv=>whnf
   refine .mk (by simp only[okI] at *; omega) ?_
   conv=>whnf
   have h4':X5 n (l.getD i default)=0:=Ce h4
   rw[if_pos h4'] at hall
   refine⟨i+1,⟨by omega,hall⟩,by omega,⟨⟨_,rfl,rfl⟩,trivial⟩,?_,rfl⟩
   repeat' (first|exact trivial|exact⟨_,rfl,rfl⟩|constructor)
 ·have hi':l.length<=i:=by simpa using h3
  rw[List.drop_eq_nil_of_le hi'] at hall
  conv=>whnf
  exact aj.int (by rw[hall]; rfl)
theorem S.kF(p:aP)(l:List Int)(f:Bool)(_hl:l.length<2^30):ak Tryz.prog 113 [.dat (.iU p),.row 0 f (.ints l)] (.int (RP p l)):=by
 refine ak.of Bd.kF (by simp) rfl rfl ?_
 conv=>whnf
 refine⟨fun h1=>?_,fun h1=>?_⟩
 ·conv=>whnf
  exact aj.int (by rw[RP,h1]; rfl)
 conv=>whnf
 refine⟨fun h2=>?_,fun h2=>?_⟩
 ·conv=>whnf
  exact aj.int (by rw[RP,h1,h2]; rfl)
 conv=>whnf
 refine⟨fun h3=>?_,fun h3=>?_⟩
 ·conv=>whnf
  exact aj.int (by rw[RP,h1,h2,h3]; rfl)
 have h4:l.length=2:=by
  have:(l.length:Int)=2:=by simpa using h3
  omega
 conv=>whnf
 repeat(refine VC.mk (by simp only[Rw.rng] at *; omega) ?_; conv=>whnf)
 refine ah.pure (S.bV (l.getD 0 0) p.states.length) rfl ?_
 conv=>whnf
 refine ah.pure (S.bV (l.getD 1 0) p.states.length) rfl ?_
 conv=>whnf
 refine ah.pure (S.bK [dh (l.getD 0 0) p.states.length,dh (l.getD 1 0) p.states.length] true (show 2<2^40 by decide)) rfl ?_
 conv=>whnf
 exact aj.int (by rw[RP,h1,h2,h3]; rfl)
theorem S.dX(p:aP)(q:Prop')(hp:fM p)(hq:uH q):ak Tryz.prog 68 [.dat (.iU p),.dat (.prop q)] (.int (pV p q)):=by
 have g1:=hp.states; have g5:=hp.initial
 have q1:=hq.start; have q2:=hq.bad; have q3:=hq.adjacent; have q4:=hq.goal
 refine ak.of Bd.dX (by simp) rfl rfl ?_
 conv=>whnf
 refine ah.pure (S.iW p hp) rfl ?_
 conv=>whnf
 refine⟨fun h1=>?_,fun h1=>?_⟩
 ·conv=>whnf
  exact aj.int (by rw[pV,h1]; rfl)
 conv=>whnf
 refine ah.pure (S.gI q.name) rfl ?_
 conv=>whnf
 refine⟨fun h2=>?_,fun h2=>?_⟩
 ·conv=>whnf
  exact aj.int (by rw[pV,h1,h2]; rfl)
 conv=>whnf
 repeat(refine VC.mk id ?_; conv=>whnf)
 refine⟨fun h3=>?_,fun h3=>?_⟩
 ·conv=>whnf
  exact aj.int (by rw[pV,h1,h2,h3]; rfl)
 conv=>whnf
 repeat(refine VC.mk id ?_; conv=>whnf)
 refine⟨fun h4=>?_,fun h4=>?_⟩
 ·conv=>whnf
  refine Fork.mk (fun _=>?_) (fun q=>absurd (q.symm.trans (h4)) Bool.false_ne_true)
  conv=>whnf
  exact aj.int (by rw[pV,h1,h2,h3,show y7 q=true by rw[y7]; erw [h4]; rfl]; rfl)
 conv=>whnf
 repeat(refine VC.mk (by first|exact id|(intro h; simp_all; done)) ?_; conv=>whnf)
 refine⟨fun h5=>?_,fun h5=>?_⟩
 ·conv=>whnf
  exact aj.int (by rw[pV,h1,h2,h3,show y7 q=true by rw[y7]; erw [h5]; simp]; rfl)
 have h45:y7 q=false:=by rw[y7]; erw [h4,h5]; rfl
 conv=>whnf
 refine ah.pure (S.dY q.start p.states.length false (by omega)) rfl ?_
 conv=>whnf
 refine⟨fun h6=>?_,fun h6=>?_⟩
 ·conv=>whnf
  exact aj.int (by rw[pV,h1,h2,h3,h45,h6]; rfl)
 conv=>whnf
 refine aG.same [2,3,6,7,65,66] (fun i:Nat=>[(67,.int i)]) (fun i=>i<=q.start.length/\(q.start.take i).any (fun x=> !(Lm p.initial x))=false) (fun i=>q.start.length-i) 0 rfl (by decide) rfl (fun _=>rfl) ⟨by omega,by simp⟩ ⟨⟨_,rfl,rfl⟩,trivial⟩ ?_
 conv=>whnf
 refine⟨rfl,?_⟩
 rintro i ⟨hi,hall⟩
 conv=>whnf
 refine⟨fun h7=>?_,fun h7=>?_⟩
 ·have hi':i<q.start.length:=by simpa using h7
  conv=>whnf
  refine .mk (by simp only[Rw.rng] at *; omega) ?_
  conv=>whnf
  refine ah.pure (S.slices_Contains_int p.initial (q.start.getD i 0) false (by omega)) rfl ?_
  conv=>whnf
  refine⟨fun h8=>?_,fun h8=>?_⟩
  ·conv=>whnf
   exact aj.int (by rw[pV,h1,h2,h3,h45,h6,nU (d:=0) hi' h8]; rfl)
  ·conv=>whnf
   refine .mk (by simp only[okI] at *; omega) ?_
   conv=>whnf
   refine⟨i+1,⟨by omega,?_⟩,by omega,⟨⟨_,rfl,rfl⟩,trivial⟩,?_,rfl⟩
   ·rw[qP (d:=0) hi' hall]; exact h8
   ·repeat' (first|exact trivial|exact⟨_,rfl,rfl⟩|constructor)
 have hi':q.start.length<=i:=by simpa using h7
 rw[List.take_of_length_le hi'] at hall
 conv=>whnf
 refine⟨fun h8=>?_,fun h8=>?_⟩
 ·conv=>whnf
  refine ah.pure (S.dY q.goal p.states.length false (by omega)) rfl ?_
  conv=>whnf
  refine ah.pure (S.bU ((q.goal.length:Int)==0) 1) rfl ?_
  conv=>whnf
  refine ah.pure (S.bK [jo q.goal p.states.length,dM ((q.goal.length:Int)==0) 1] true (show 2<2^40 by decide)) rfl ?_
  conv=>whnf
  exact aj.int (by rw[pV,h1,h2,h3,h45,h6,hall,h8]; rfl)
 conv=>whnf
 repeat(refine VC.mk id ?_; conv=>whnf)
 refine ah.pure (S.bU (((q.bad.length:Int)==0)&&((q.adjacent.length:Int)==0)) 1) rfl ?_
 conv=>whnf
 refine ah.pure (S.bU (decide ((q.bad.length:Int)>3)) 4) rfl ?_
 conv=>whnf
 refine ah.pure (S.mG q.bad p.states.length false q2 hq.cnt) rfl ?_
 conv=>whnf
 refine ah.pure (S.kF p q.adjacent false q3) rfl ?_
 conv=>whnf
 refine ah.pure (S.bK [dM (((q.bad.length:Int)==0)&&((q.adjacent.length:Int)==0)) 1,dM (decide ((q.bad.length:Int)>3)) 4,Bz q.bad p.states.length,RP p q.adjacent] true (show 4<2^40 by decide)) rfl ?_
 conv=>whnf
 exact aj.int (by rw[pV,h1,h2,h3,h45,h6,hall,h8]; rfl)
end Go.Proofs.YtkmldgihhaooaaaGreatDoor
namespace Go.Proofs.YtkmldgihhaooaaaGreatDoor
open Go.Ab Go.Proofs
set_option maxRecDepth 100000
theorem aj.ael{h:Hz}{j:Nat}{l:List Int}(q:h.get j=some (mF l)):aj (.row 0 false (.ints l)) (.own j) h:=⟨Eh trivial q⟩
theorem aj.afr{h:Hz}{k k':Nat}{r:Rw}(e:r.len=0):aj (.row k false r) (.row k' true .nil) h:=⟨by
 have:r.aW=[]:=List.eq_nil_of_length_eq_zero (by rw[Rw.dZ]; exact e)
 show T.sub (fun _=>True) h.au (.sl k false r.aW) (.sl k' true [])
 rw[this]; simp[T.sub]⟩
theorem S.LG(l:List Int)(f:Bool)(hl:l.length<2^30):ak Tryz.prog 114 [.row 0 f (.ints l)] (.row 0 false (.ints l)):=by
 refine ak.of Bd.ng (by simp) rfl rfl ?_
 conv=>whnf
 refine X6.mk (fun hz=>?_) ?_
 ·conv=>whnf
  refine Fork.mk (fun _=>?_) (fun q=>absurd (q.symm.trans ((rfl:true=true))) Bool.false_ne_true)
  conv=>whnf
  exact aj.afr hz
 ·conv=>whnf
  refine Fork.mk (fun q=>absurd (q.symm.trans ((rfl:false=false))).symm Bool.false_ne_true) (fun _=>?_)
  conv=>whnf
  refine .mk (by simp only[nK,nT,Rw.len]; omega) ?_
  conv=>whnf
  repeat(refine VC.mk (by simp only[nK,nT,Rw.len]; omega) ?_; conv=>whnf)
  exact aj.ael rfl
def xU(p:aP)(q:Prop'):List Int:=bif decide ((q.start.length:Int)>0) then q.start else p.initial
def fU(p:aP)(q:Prop'):Int:=bif pV p q !=0 then pV p q else dM (!(iV p).cover||q.kind !=1) 7
theorem I8{p:aP}{q:Prop'}(h:pV p q=0):bg p=0:=by
 unfold pV at h
 obtain⟨h1,_⟩:=bz nz h
 exact Ce h1
theorem VD{p:aP}{q:Prop'}(h:pV p q=0):fU p q=dM (!(bif bg p !=0 then G7 else iV p).cover||q.kind !=1) 7:=by
 have h2:=I8 h
 rw[fU,show(pV p q !=0)=false by simp[h],show(bg p !=0)=false by simp[h2]]; rfl
theorem S.nV(p:aP)(q:Prop')(hp:fM p)(hq:uH q):ak Tryz.prog 41 [.dat (.iU p),.dat (.prop q)] (.int (fU p q)):=by
 refine ak.of Bd.nV (by simp) rfl rfl ?_
 conv=>whnf
 refine ah.pure (S.dX p q hp hq) rfl ?_
 conv=>whnf
 refine⟨fun h1=>?_,fun h1=>?_⟩
 ·conv=>whnf
  exact aj.int (by rw[fU,h1]; rfl)
 rw[VD (Ce h1)]
 conv=>whnf
 refine ah.pure (S.gY p hp) rfl ?_
 conv=>whnf
 repeat(refine VC.mk (by first|exact id|(intro h; rw[h]; rfl)) ?_; conv=>whnf)
 refine⟨fun h2=>?_,fun h2=>?_⟩
 ·conv=>whnf
  exact aj.int (by rw[h2]; rfl)
 ·conv=>whnf
  exact aj.int (by rw[h2]; rfl)
theorem S.mJ(p:aP)(q:Prop')(hp:fM p)(hq:uH q)(hv:pV p q=0):ak Tryz.prog 72 [.dat (.iU p),.dat (.prop q)] (.cO [.row 0 false (.ints (xU p q)),.int 0]):=by
 have g5:=hp.initial; have q1:=hq.start
 refine ak.of Bd.mJ (by simp) rfl rfl ?_
 conv=>whnf
 refine ah.pure (S.dX p q hp hq) rfl ?_
 conv=>whnf
 refine Fork.mk (fun q=>absurd (q.symm.trans ((by simp[hv]))).symm Bool.false_ne_true) (fun _=>?_)
 conv=>whnf
 refine⟨fun h2=>?_,fun h2=>?_⟩
 ·conv=>whnf
  refine ah.pure (S.LG q.start false q1) rfl ?_
  conv=>whnf
  exact aj.eqv (by rw[xU,show decide ((q.start.length:Int)>0)=true from h2]; rfl)
 ·conv=>whnf
  refine ah.pure (S.LG p.initial false g5) rfl ?_
  conv=>whnf
  exact aj.eqv (by rw[xU,show decide ((q.start.length:Int)>0)=false from h2]; rfl)
def En(p:aP)(q:Prop')(e:Elem):Bool:= !(acM e.counts (xU p q))&&(e.value==0)
theorem VE{p:aP}{q:Prop'}(hp:fM p)(hq:uH q):(xU p q).length<2^30:=by
 unfold xU
 cases decide ((q.start.length:Int)>0)
 ·exact hp.initial
 ·exact hq.start
theorem S.mW(p:aP)(q:Prop')(e:Elem)(hp:fM p)(hq:uH q)(he:e.counts.length<2^30)(hv:pV p q=0):ak Tryz.prog 45 [.dat (.iU p),.dat (.prop q),.dat (.elem e)] (.bool (En p q e)):=by
 have hst:=VE hp hq
 refine ak.of Bd.mW (by simp) rfl rfl ?_
 conv=>whnf
 refine ah.pure (S.mJ p q hp hq hv) rfl ?_
 conv=>whnf
 refine aG.same [5,7,18,19] (fun i:Nat=>[(20,.int i)]) (fun i=>i<=e.counts.length/\(List.range i).any (fun i=>decide (e.counts.getD i 0>0)&& !(Lm (xU p q) i))=false) (fun i=>e.counts.length-i) 0 rfl (by decide) rfl (fun _=>rfl) ⟨by omega,by simp⟩ ⟨⟨_,rfl,rfl⟩,trivial⟩ ?_
 conv=>whnf
 refine⟨rfl,?_⟩
 rintro i ⟨hi,hall⟩
 conv=>whnf
 refine⟨fun h3=>?_,fun h3=>?_⟩
 ·have hi':i<e.counts.length:=by simpa using h3
  conv=>whnf
  repeat(refine VC.mk (by first|exact fun h=>⟨h,h⟩|(simp only[Rw.rng] at *; first|omega|(simp_all; done)|(simp_all; omega))) ?_; conv=>whnf)
  refine ah.gJ (fun _=>S.slices_Contains_int (xU p q) i false (by omega)) rfl ?_
  conv=>whnf
  repeat(refine VC.mk id ?_; conv=>whnf)
  refine⟨fun h4=>?_,fun h4=>?_⟩
  ·conv=>whnf
   have:acM e.counts (xU p q)=true:=rY.2 ⟨i,hi',h4⟩
   exact aj.bool (by rw[En,this]; rfl)
  ·conv=>whnf
   refine .mk (by simp only[okI] at *; first|omega|(simp_all; done)|(simp_all; omega)) ?_
   conv=>whnf
   refine⟨i+1,⟨by omega,?_⟩,by omega,⟨⟨_,rfl,rfl⟩,trivial⟩,?_,rfl⟩
   ·rw[List.range_succ,List.any_append,hall]
    simp only[List.any_cons,List.any_nil,Bool.or_false,Bool.false_or]; exact h4
   ·repeat' (first|exact trivial|exact⟨_,rfl,rfl⟩|constructor)
 ·have hi':e.counts.length<=i:=by simpa using h3
  have ei:i=e.counts.length:=Nat.le_antisymm hi hi'
  subst ei
  conv=>whnf
  exact aj.bool (by rw[En,show acM e.counts (xU p q)=false from hall]; rfl)
theorem Di{p:aP}{q:Prop'}(h:fU p q=0):pV p q=0:=by
 unfold fU at h
 obtain⟨h1,_⟩:=bz nz h
 exact Ce h1
end Go.Proofs.YtkmldgihhaooaaaGreatDoor
