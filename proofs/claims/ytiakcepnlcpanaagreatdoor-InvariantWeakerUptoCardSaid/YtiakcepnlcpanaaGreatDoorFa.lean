/-
 A part of the proof. No condition.
-/
import Derived.Test.YtiakcepnlcpanaaGreatDoorRb
import Derived.Test.YtiakcepnlcpanaaGreatDoorLf
import Derived.Test.YtiakcepnlcpanaaGreatDoorKa
namespace Go.Proofs.YtiakcepnlcpanaaGreatDoor
open Go.Ab Go.Proofs
set_option maxRecDepth 100000
def Bj(s:Int):List Int->Nat->Int
 |[],_=> -1
 |x::r,i=>bif s==x then(i:Int) else Bj s r (i+1)
theorem U2{s:Int}{l:List Int}:decide (0<=Bj s l 0)=l.any fun x=>s==x:=by
 have: ∀ {l:List Int} {i:Nat},0<=Bj s l i↔(l.any fun x=>s==x)=true:=by
  intro l
  induction l with
  |nil=>intro i; simp[Bj]
  |cons x r ih =>
   intro i
   rw[List.any_cons,Bool.or_eq_true,<- ih (i:=i+1)]
   show(0:Int)<=(bif s==x then(i:Int) else Bj s r (i+1))↔_
   generalize (s==x)=b
   cases b<;>simp
 rw[Bool.eq_iff_iff,decide_eq_true_eq]; exact this
theorem S.slices_Index_int(l:List Int)(s:Int)(f:Bool)(hl:l.length<2^40):au Tryz.prog 73 [.row 0 f (.ints l),.int s] (.int (Bj s l 0)):=by
 refine au.of Bd.lS (by simp) rfl rfl ?_
 conv=>whnf
 refine aU.same [0,1,6,7] (fun i:Nat=>[(8,.int i)]) (fun i=>i<=l.length/\Bj s l 0=Bj s (l.drop i) i) (fun i=>l.length-i) 0 rfl (by decide) rfl (fun _=>rfl) ⟨by omega,by simp⟩ ⟨⟨_,rfl,rfl⟩,trivial⟩ ?_
 conv=>whnf
 refine⟨rfl,?_⟩
 rintro i ⟨hi,hall⟩
 conv=>whnf
 refine⟨fun h3=>?_,fun h3=>?_⟩
 ·have hi':i<l.length:=by simpa using h3
  rw[cO 0 hi'] at hall
  simp only[Bj] at hall
  conv=>whnf
  refine .mk (by simp only[Rw.rng] at *; first|omega|(simp_all; done)|(simp_all; omega)) ?_
  conv=>whnf
  refine⟨fun h4=>?_,fun h4=>?_⟩
  ·conv=>whnf
   refine aA.int ?_
   have h4':(s==l.getD i 0)=true:=h4
   rw[hall,h4']; rfl
  ·conv=>whnf
   refine .mk (by simp only[okI] at *; first|omega|(simp_all; done)|(simp_all; omega)) ?_
   conv=>whnf
   refine⟨i+1,⟨by omega,?_⟩,by omega,⟨⟨_,rfl,rfl⟩,trivial⟩,?_,rfl⟩
   ·have h4':(s==l.getD i 0)=false:=h4
    rw[hall,h4']; rfl
   ·repeat' (first|exact trivial|exact⟨_,rfl,rfl⟩|constructor)
 ·conv=>whnf
  refine aA.int ?_
  have hi':l.length<=i:=by simpa using h3
  rw[hall,List.drop_eq_nil_of_le hi']; rfl
def Qv(l:List Int)(s:Int):Bool:=l.any fun x=>s==x
theorem S.slices_Contains_int(l:List Int)(s:Int)(f:Bool)(hl:l.length<2^40):au Tryz.prog 55 [.row 0 f (.ints l),.int s] (.bool (Qv l s)):=by
 refine au.of Bd.jS (by simp) rfl rfl ?_
 conv=>whnf
 refine ah.pure (S.slices_Index_int l s f hl) rfl ?_
 conv=>whnf
 exact aA.bool U2.symm
def rC(n:Nat)(l:List Int):Prop:= ∀ q∈l,0<=q/\q<n
def XI(c l:List Int):Bool:=(List.range c.length).any fun i=>decide (c.getD i 0>0)&& !(Qv l i)
def sS(ex c:List Int)(i:Nat):Bool:=((ex.length:Int)==0)||(List.range i).any fun j=> !(c.getD j 0==0)&&Qv ex j
def rD(al c:List Int)(i:Nat):Bool:=(List.range i).any fun j=> !(c.getD j 0==0)&&(decide ((al.length:Int)>0)&& !(Qv al j))
def lY(r:Rule)(c:List Int):Bool:= !(rD r.all c c.length)&&sS r.ex c c.length
theorem Ad{ex c:List Int}{i:Nat}:sS ex c (i+1)=(sS ex c i||(!(c.getD i 0==0)&&Qv ex i)):=by
 simp only[sS,List.range_succ,List.any_append,List.any_cons,List.any_nil,Bool.or_false,Bool.or_assoc]
theorem Ae{al c:List Int}{i:Nat}:rD al c (i+1)=(rD al c i||(!(c.getD i 0==0)&&(decide ((al.length:Int)>0)&& !(Qv al i)))):=by
 simp only[rD,List.range_succ,List.any_append,List.any_cons,List.any_nil,Bool.or_false]
theorem LX{al c:List Int}{i:Nat}(hi:i<c.length)(h0:(c.getD i 0==0)=false)(h:(decide ((al.length:Int)>0)&& !(Qv al i))=true):rD al c c.length=true :=
 I5.2 ⟨i,hi,by rw[h0,h]; rfl⟩
theorem S.nH(r:Rule)(c:List Int)(f:Bool)(hr:ru r)(hc:c.length<2^40):au Tryz.prog 49 [.dat (.rule r),.row 0 f (.ints c)] (.bool (lY r c)):=by
 have g1:=hr.ex; have g2:=hr.all
 refine au.of Bd.nH (by simp) rfl rfl ?_
 conv=>whnf
 refine aU.same [2,12,13] (fun i:Nat=>[(14,.int i),(5,.bool (sS r.ex c i))]) (fun i=>i<=c.length/\rD r.all c i=false) (fun i=>c.length-i) 0 rfl (by decide) rfl (fun _=>rfl) ⟨by omega,rfl⟩ ⟨⟨_,rfl,rfl⟩,⟨_,rfl,?_⟩,trivial⟩ ?_
 ·show(V.bool (sS r.ex c 0)).aH=(V.bool ((r.ex.length:Int)==0)).aH
  rw[sS]; simp
 conv=>whnf
 refine⟨rfl,?_⟩
 rintro i ⟨hi,hall⟩
 conv=>whnf
 refine⟨fun h3=>?_,fun h3=>?_⟩
 ·have hi':i<c.length:=by simpa using h3
  conv=>whnf
  refine .mk (by simp only[Rw.rng] at *; first|omega|(simp_all; done)|(simp_all; omega)) ?_
  conv=>whnf
  refine⟨fun h4=>?_,fun h4=>?_⟩
  ·replace h4:(c.getD i 0==0)=true:=h4
   conv=>whnf
   refine .mk (by simp only[okI] at *; first|omega|(simp_all; done)|(simp_all; omega)) ?_
   conv=>whnf
   refine⟨i+1,⟨by omega,by rw[Ae,hall,h4]; rfl⟩,by omega,⟨⟨_,rfl,rfl⟩,⟨_,rfl,?_⟩,trivial⟩,?_,rfl⟩
   ·rw[Ad,h4]; simp[V.aH]
   ·repeat' (first|exact trivial|exact⟨_,rfl,rfl⟩|constructor)
  ·replace h4:(c.getD i 0==0)=false:=h4
   conv=>whnf
   repeat(refine VC.mk (by first|exact id|exact fun h=>⟨h,h⟩) ?_; conv=>whnf)
   refine ah.nY (fun _=>S.slices_Contains_int r.ex i false (by omega)) rfl ?_
   conv=>whnf
   repeat(refine VC.mk (by first|exact id|exact fun h=>⟨h,h⟩|(intro h; rw[h]; rfl)) ?_; conv=>whnf)
   refine ah.nY (fun _=>S.slices_Contains_int r.all i false (by omega)) rfl ?_
   conv=>whnf
   repeat(refine VC.mk id ?_; conv=>whnf)
   refine⟨fun h5=>?_,fun h5=>?_⟩
   ·conv=>whnf
    exact aA.bool (by rw[lY,LX hi' h4 h5]; rfl)
   ·conv=>whnf
    refine .mk (by simp only[okI] at *; first|omega|(simp_all; done)|(simp_all; omega)) ?_
    conv=>whnf
    refine⟨i+1,⟨by omega,by rw[Ae,hall,h4]; simpa using h5⟩,by omega,⟨⟨_,rfl,rfl⟩,⟨_,rfl,?_⟩,trivial⟩,?_,rfl⟩
    ·rw[Ad,h4]; simp[V.aH,pz]
    ·repeat' (first|exact trivial|exact⟨_,rfl,rfl⟩|constructor)
 ·have hi':c.length<=i:=by simpa using h3
  have e:i=c.length:=Nat.le_antisymm hi hi'
  subst e
  conv=>whnf
  exact aA.bool (by rw[lY,hall]; rfl)
structure sN(n:Nat)(r:Rule):Prop where
 src:0<=r.fr/\r.fr<n
 dst:0<=r.to/\r.to<n
 abH:0<=r.gU/\r.gU<n
 abI:0<=r.Bl/\r.Bl<n
 rsp:r.kind=3->r.response.length=n/\rC n r.response
 exs:rC n r.ex
def Dk(c:List Int):Prop:= ∀ x∈c,0<=x/\x<=1048576
def dW(c:List Int)(i d:Int):List Int:=c.set i.toNat (c.getD i.toNat 0+d)
def aO(c:List Int)(i:Int):List Int:=c.set i.toNat (c.getD i.toNat 0-1)
def kF(r:Rule)(c:List Int)(i:Nat):List Int:=(List.range i).foldl (fun a j=>dW a (r.response.getD j 0) (c.getD j 0)) (List.replicate c.length 0)
def aX(r:Rule)(e:Elem):Option Elem :=
 let c1:=aO e.counts r.fr
 let out (c:List Int):Option Elem:=some ⟨bif decide (r.write>=0) then r.write else e.value,dW c r.to 1⟩
 bif (decide (0<=r.read)&&e.value !=r.read||e.counts.getD r.fr.toNat 0==0) then none else
 bif r.kind==1 then(bif !(lY r c1) then none else out c1) else
 bif r.kind==2 then(bif c1.getD r.gU.toNat 0==0 then none else out (dW (aO c1 r.gU) r.Bl 1)) else
 bif r.kind==3 then out (kF r c1 c1.length) else out c1
def lu(r:Rule)(e:Elem):V:=match aX r e with
 |none=>.dM [.agg [.int 0,.row 0 true .nil],.bool false]
 |some x=>.dM [.dat (.elem x),.bool true]
theorem OC(r:Rule)(e:Elem):(lu r e).free=true:=by
 unfold lu; cases aX r e<;>rfl
def LY(r:Rule)(e:Elem):V:=.dM [.dat (.elem ((aX r e).getD ⟨0,[]⟩)),.bool (aX r e).isSome]
theorem RN{Z:Nat->Prop}{h:Hp}(r:Rule)(e:Elem):T.sub Z h (LY r e).aH (lu r e).aH:=by
 unfold LY lu
 cases aX r e with
 |none =>
  show T.sub Z h (.dM [.agg [.int 0,.sl 0 false []],.bool false]) (.dM [.agg [.int 0,.sl 0 true []],.bool false])
  simp[T.sub,T.cu]
 |some x=>exact aC _
theorem au.LY{f:FuncId}{r:Rule}{e:Elem}(S:au Tryz.prog f [.dat (.rule r),.dat (.elem e)] (lu r e)):au Tryz.prog f [.dat (.rule r),.dat (.elem e)] (LY r e) :=
 uy.shut S (fun _=>RN r e) rfl
theorem Dk.get{c:List Int}(h:Dk c){i:Nat}(hi:i<c.length):0<=c.getD i 0/\c.getD i 0<=1048576:=by
 rw[show c.getD i 0=c[i] by simp[hi]]; exact h _ (List.getElem_mem hi)
theorem FU{h:Hz}{j:Nat}{Z:Nat->Prop}{l:List Int}(hz:Z j)(q:h.get j=some (.row 3 0 (.ints l) [])):T.sub Z h.aj (V.row 0 false (.ints l)).aH (V.own j).aH:=by
 show T.sub Z h.aj (.sl 0 false (l.map T.int)) (.own j)
 simp only[T.sub]
 refine⟨trivial,hz,?_,by decide,3,?_⟩
 ·rw[fJ]; intro t ht; obtain⟨x,_,rfl⟩:=List.mem_map.1 ht; rfl
 ·have:=aJ q
  rw[this]; simp[OV.aG,Rw.aS,V.aS]
def okB(b:Int)(c:List Int):Prop:= ∀ x∈c,-b<=x/\x<=b
theorem okB.get{b:Int}{c:List Int}(h:okB b c)(hb:0<=b)(i:Nat): -b<=c.getD i 0/\c.getD i 0<=b:=by
 by_cases hi:i<c.length
 ·rw[show c.getD i 0=c[i] by simp[hi]]; exact h _ (List.getElem_mem hi)
 ·rw[show c.getD i 0=0 by simp[List.getD_eq_getElem?_getD,List.getElem?_eq_none (by omega:c.length<=i)]]; omega
theorem okB.add{b k:Int}{c:List Int}(h:okB b c)(hb:0<=b)(i d:Int)(hd: -k<=d/\d<=k):okB (b+k) (dW c i d):=by
 intro x hx
 have hk:0<=k:=by omega
 rcases List.mem_or_eq_of_mem_set hx with hx|rfl
 ·have:=h x hx; omega
 ·have:=h.get hb i.toNat; omega
theorem okB.dec{b:Int}{c:List Int}(h:okB b c)(hb:0<=b)(i:Int):okB (b+1) (aO c i):=by
 have:=h.add hb i (-1) (k:=1) ⟨by omega,by omega⟩
 rw[show aO c i=dW c i (-1) by simp only[aO,dW]; rfl]; exact this
theorem Dk.b{c:List Int}(h:Dk c):okB 1048576 c:=fun x hx=>by have:=h x hx; omega
theorem aA.Ej{h:Hz}{j:Nat}{v:Int}{l:List Int}(q:h.get j=some (.row 3 0 (.ints l) [])):aA (.dM [.dat (.elem ⟨v,l⟩),.bool true]) (.dM [.agg [.int v,.own j],.bool true]) h:=⟨by
 show T.sub (fun _=>True) h.aj (.dM [.agg [.int v,.sl 0 false (l.map T.int)],.bool true]) (.dM [.agg [.int v,.own j],.bool true])
 have:=FU (Z:=fun _=>True) trivial q
 replace this:T.sub (fun _=>True) h.aj (.sl 0 false (l.map T.int)) (.own j):=this
 simp only[T.sub] at this
 simp only[T.sub,T.cu]
 exact⟨⟨trivial,this,trivial⟩,trivial,trivial⟩⟩
theorem yc{n:Nat}(h:0<n):(bif isZero (.int n) then some Rw.nil else RP (n:Int).toNat (T.int 0))=some (.ints (List.replicate n 0)):=by
 cases n with
 |zero=>omega
 |succ k=>rfl
theorem vP{r:Rule}{c:List Int}{i:Nat}:kF r c (i+1)=dW (kF r c i) (r.response.getD i 0) (c.getD i 0):=by
 simp only[kF,List.range_succ,List.foldl_append,List.foldl_cons,List.foldl_nil]
theorem qK{r:Rule}{c:List Int}{i:Nat}:(kF r c i).length=c.length:=by
 induction i with
 |zero=>simp[kF]
 |succ i ih=>rw[vP]; simp[dW,ih]
theorem U3{r:Rule}{c:List Int}{b:Int}(h:okB b c)(hb:0<=b)(i:Nat):okB (i*b) (kF r c i):=by
 induction i with
 |zero=>intro x hx; simp[kF] at hx; omega
 |succ i ih =>
  rw[vP]
  have h0:0<=(i:Int)*b:=Int.mul_nonneg (by omega) hb
  have:=ih.add h0 (r.response.getD i 0) (c.getD i 0) (k:=b) (h.get hb i)
  rw[show((i+1:Nat):Int)*b=i*b+b by rw[Int.natCast_add,Int.add_mul]; simp]; exact this
abbrev jK(l:List Int):OV:=.row 3 0 (.ints l) []
theorem S.qM(r:Rule)(e:Elem)(hr:ru r)(hp:sN e.counts.length r)(hc:Dk e.counts)(hl:e.counts.length<=6):au Tryz.prog 26 [.dat (.rule r),.dat (.elem e)] (lu r e):=by
 obtain⟨f1,f2⟩:=hp.src
 obtain⟨d1,d2⟩:=hp.dst
 obtain⟨p1,p2⟩:=hp.abH
 obtain⟨q1,q2⟩:=hp.abI
 have hfr:=hc.get (i:=r.fr.toNat) (by omega)
 refine au.of Bd.qM (by simp) rfl (OC r e) ?_
 conv=>whnf
 repeat(refine VC.mk (by first|exact id|exact fun h=>⟨h,h⟩|(intro h; rw[h]; rfl)|(intro h; (repeat' apply And.intro)<;>first|exact h|omega|(simp only[Rw.qN]; omega)|(simp only[Rw.rng]; omega))) ?_; conv=>whnf)
 refine⟨fun h1=>?_,fun h1=>?_⟩
 ·conv=>whnf
  refine aA.eqv ?_
  rw[lu,aX,h1]; rfl
 have hl1:(aO e.counts r.fr).length=e.counts.length:=by simp[aO]
 conv=>whnf
 repeat(refine VC.mk (by first|(simp only[oQ,og,Rw.len]; omega)|(simp only[okI,Rw.rng] at *; first|omega|(simp_all; done)|(simp_all; omega))) ?_; conv=>whnf)
 refine⟨fun h2=>?_,fun h2=>?_⟩
 ·conv=>whnf
  refine ah.lend (S.nH r (aO e.counts r.fr) false hr (by omega)) (And.intro (aC _) (And.intro (FU trivial rfl) trivial)) rfl rfl ?_
  conv=>whnf
  refine⟨fun h3=>?_,fun h3=>?_⟩
  ·conv=>whnf
   refine aA.eqv ?_
   rw[lu,aX,h1,h2,h3]; rfl
  have hB:=hc.b.dec (by omega) r.fr
  have hB1:=hB.get (by omega) r.to.toNat
  conv=>whnf
  repeat(refine VC.mk (by first|(simp only[Rw.rng,List.length_set]; omega)|(simp only[okI,aO] at *; omega)) ?_; conv=>whnf)
  refine⟨fun h4=>?_,fun h4=>?_⟩
  ·replace h4:decide (r.write>=0)=true:=h4
   have hS:lu r e= .dM [.dat (.elem ⟨r.write,dW (aO e.counts r.fr) r.to 1⟩),.bool true]:=by rw[lu,aX,h1,h2,h3,h4]; rfl
   conv=>whnf
   rw[hS]
   exact aA.Ej rfl
  ·replace h4:decide (r.write>=0)=false:=h4
   have hS:lu r e= .dM [.dat (.elem ⟨e.value,dW (aO e.counts r.fr) r.to 1⟩),.bool true]:=by rw[lu,aX,h1,h2,h3,h4]; rfl
   conv=>whnf
   rw[hS]
   exact aA.Ej rfl
 conv=>whnf
 refine⟨fun h5=>?_,fun h5=>?_⟩
 ·have hB:=hc.b.dec (by omega) r.fr
  have hB1:=hB.get (by omega) r.gU.toNat
  have hB2:=hB.dec (by omega) r.gU
  have hB3:=hB2.get (by omega) r.Bl.toNat
  have hB4:=hB2.add (by omega) r.Bl 1 (k:=1) ⟨by omega,by omega⟩
  have hB5:=hB4.get (by omega) r.to.toNat
  conv=>whnf
  repeat(refine VC.mk (by first|(simp only[Rw.rng,List.length_set]; omega)|(simp only[aO,dW] at *; omega)) ?_; conv=>whnf)
  refine⟨fun h6=>?_,fun h6=>?_⟩
  ·replace h6:((aO e.counts r.fr).getD r.gU.toNat 0==0)=true:=h6
   conv=>whnf
   refine aA.eqv ?_
   rw[lu,aX,h1,h2,h5,h6]; rfl
  ·replace h6:((aO e.counts r.fr).getD r.gU.toNat 0==0)=false:=h6
   conv=>whnf
   repeat(refine VC.mk (by first|(simp only[Rw.rng,List.length_set]; omega)|(simp only[okI,aO,dW] at *; omega)) ?_; conv=>whnf)
   refine⟨fun h4=>?_,fun h4=>?_⟩
   ·replace h4:decide (r.write>=0)=true:=h4
    have hS:lu r e= .dM [.dat (.elem ⟨r.write,dW (dW (aO (aO e.counts r.fr) r.gU) r.Bl 1) r.to 1⟩),.bool true]:=by rw[lu,aX,h1,h2,h5,h6,h4]; rfl
    conv=>whnf
    rw[hS]
    exact aA.Ej rfl
   ·replace h4:decide (r.write>=0)=false:=h4
    have hS:lu r e= .dM [.dat (.elem ⟨e.value,dW (dW (aO (aO e.counts r.fr) r.gU) r.Bl 1) r.to 1⟩),.bool true]:=by rw[lu,aX,h1,h2,h5,h6,h4]; rfl
    conv=>whnf
    rw[hS]
    exact aA.Ej rfl
 conv=>whnf
 refine⟨fun h6=>?_,fun h6=>?_⟩
 ·have hB:=hc.b.dec (by omega) r.fr
  obtain⟨rs1,rs2⟩:=hp.rsp (beq_iff_eq.1 h6)
  conv=>whnf
  have hm:=yc (n:=(aO e.counts r.fr).length) (by omega)
  simp only[aO] at hm
  rw[hm]
  conv=>whnf
  refine .mk (by simp only[List.length_set]; omega) ?_
  conv=>whnf
  refine aU.objs 60 [2,3,4,78,79] (fun i:Nat=>[(80,.int i),(7,.own 45)]) (fun i=>[(0,.box 78 19 (.dat (.rule r))),(1,.box 38 3 (.dat (.elem e))),(2,.box 38 3 (.agg [.int 0,.row 0 true .nil])),(25,jK (aO e.counts r.fr)),(45,jK (kF r (aO e.counts r.fr) i))]) (fun i=>i<=(aO e.counts r.fr).length) (fun i=>(aO e.counts r.fr).length-i) 0 [0,1,2,25,45] rfl (by decide) (fun _=>rfl) (Nat.zero_le _) ?_ ?_ ?_
  ·exact⟨⟨_,rfl,.eq rfl⟩,⟨_,rfl,.eq rfl⟩,trivial⟩
  ·exact⟨⟨rfl,nofun,rfl,rfl,rfl,_,rfl,rfl,rfl,bG.of_eq rfl⟩,⟨rfl,nofun,rfl,rfl,rfl,_,rfl,rfl,rfl,bG.of_eq rfl⟩,⟨rfl,nofun,rfl,rfl,rfl,_,rfl,rfl,rfl,bG.of_eq rfl⟩,⟨rfl,nofun,rfl,rfl,rfl,_,rfl,rfl,rfl,bG.of_eq rfl⟩,⟨rfl,nofun,rfl,rfl,rfl,_,rfl,rfl,rfl,bG.of_eq rfl⟩,trivial⟩
  conv=>whnf
  refine⟨⟨⟨_,rfl,.eq rfl⟩,⟨_,rfl,.eq rfl⟩,⟨_,rfl,.eq rfl⟩,⟨_,rfl,.eq rfl⟩,⟨_,rfl,.eq rfl⟩,trivial⟩,rfl,?_⟩
  rintro i hi
  have Dl:(i:Int)*1048577<=6*1048577:=Int.mul_le_mul_of_nonneg_right (by omega) (by omega)
  have hn0:0<=(i:Int)*1048577:=Int.mul_nonneg (by omega) (by omega)
  have hRB:=U3 hB (by omega) (r:=r) i
  have hRl:(kF r (aO e.counts r.fr) i).length=e.counts.length:=by rw[qK,hl1]
  conv=>whnf
  refine⟨fun g1=>?_,fun g1=>?_⟩
  ·have hi':i<(aO e.counts r.fr).length:=by
    have:(i:Int)<((aO e.counts r.fr).length:Int):=of_decide_eq_true g1
    omega
   have hir:i<r.response.length:=by omega
   obtain⟨q1,q2⟩:0<=r.response.getD i 0/\r.response.getD i 0<e.counts.length:=by
    rw[show r.response.getD i 0=r.response[i] by simp[hir]]; exact rs2 _ (List.getElem_mem hir)
   have hR1:=hRB.get hn0 (r.response.getD i 0).toNat
   have hR2:=hB.get (by omega) i
   conv=>whnf
   repeat(refine VC.mk (by first|(first|(simp only[Rw.rng,qK]; omega)|(simp only[okI,aO,Int.toNat_natCast] at *; omega))|(simp only[Rw.rng] at *; first|omega|(simp_all; done)|(simp_all; omega))) ?_; conv=>whnf)
   refine⟨i+1,[0,1,2,25,45],by omega,by omega,⟨⟨_,rfl,.eq rfl⟩,⟨_,rfl,.eq rfl⟩,trivial⟩,⟨⟨_,rfl,.eq rfl⟩,⟨_,rfl,.eq rfl⟩,⟨_,rfl,.eq rfl⟩,⟨_,rfl,.eq rfl⟩,⟨_,rfl,.eq rfl⟩,trivial⟩,⟨rfl,nofun,rfl,rfl,rfl,_,rfl,rfl,rfl,bG.of_eq rfl⟩,⟨rfl,nofun,rfl,rfl,rfl,_,rfl,rfl,rfl,bG.of_eq rfl⟩,⟨rfl,nofun,rfl,rfl,rfl,_,rfl,rfl,rfl,bG.of_eq rfl⟩,⟨rfl,nofun,rfl,rfl,rfl,_,rfl,rfl,rfl,bG.of_eq rfl⟩,⟨rfl,nofun,rfl,rfl,rfl,_,rfl,rfl,rfl,bG.of_eq ?_⟩,trivial⟩
   rw[vP]; rfl
  have hi':i=(aO e.counts r.fr).length:=by
   have: ¬ ((i:Int)<((aO e.counts r.fr).length:Int)):=of_decide_eq_false g1
   omega
  subst hi'
  have hR1:=hRB.get hn0 r.to.toNat
  conv=>whnf
  repeat(refine VC.mk (by first|(simp only[Rw.rng,qK]; omega)|(simp only[okI,aO,Int.toNat_natCast] at *; omega)) ?_; conv=>whnf)
  refine⟨fun h4=>?_,fun h4=>?_⟩
  ·replace h4:decide (r.write>=0)=true:=h4
   have hS:lu r e= .dM [.dat (.elem ⟨r.write,dW (kF r (aO e.counts r.fr) (aO e.counts r.fr).length) r.to 1⟩),.bool true]:=by rw[lu,aX,h1,h2,h5,h6,h4]; rfl
   conv=>whnf
   rw[hS]
   exact aA.Ej rfl
  ·replace h4:decide (r.write>=0)=false:=h4
   have hS:lu r e= .dM [.dat (.elem ⟨e.value,dW (kF r (aO e.counts r.fr) (aO e.counts r.fr).length) r.to 1⟩),.bool true]:=by rw[lu,aX,h1,h2,h5,h6,h4]; rfl
   conv=>whnf
   rw[hS]
   exact aA.Ej rfl
 ·have hB:=hc.b.dec (by omega) r.fr
  have hB1:=hB.get (by omega) r.to.toNat
  conv=>whnf
  repeat(refine VC.mk (by first|(simp only[Rw.rng,List.length_set]; omega)|(simp only[okI,aO] at *; omega)) ?_; conv=>whnf)
  refine⟨fun h4=>?_,fun h4=>?_⟩
  ·replace h4:decide (r.write>=0)=true:=h4
   have hS:lu r e= .dM [.dat (.elem ⟨r.write,dW (aO e.counts r.fr) r.to 1⟩),.bool true]:=by rw[lu,aX,h1,h2,h5,h6,h4]; rfl
   conv=>whnf
   rw[hS]
   exact aA.Ej rfl
  ·replace h4:decide (r.write>=0)=false:=h4
   have hS:lu r e= .dM [.dat (.elem ⟨e.value,dW (aO e.counts r.fr) r.to 1⟩),.bool true]:=by rw[lu,aX,h1,h2,h5,h6,h4]; rfl
   conv=>whnf
   rw[hS]
   exact aA.Ej rfl
end Go.Proofs.YtiakcepnlcpanaaGreatDoor
namespace Go.Proofs.YtiakcepnlcpanaaGreatDoor
open Go.Ab Go.Proofs
set_option maxRecDepth 100000
theorem XJ{r:Rule}{e:Elem}(hc:Dk e.counts)(h1:(decide (0<=r.read)&&e.value !=r.read||e.counts.getD r.fr.toNat 0==0)=false)(i:Nat):0<=(aO e.counts r.fr).getD i 0:=by
 have h0: ∀ j,0<=e.counts.getD j 0:=fun j=>by
  by_cases hj:j<e.counts.length
  ·exact(hc.get hj).1
  ·rw[show e.counts.getD j 0=0 by simp[List.getD_eq_getElem?_getD,List.getElem?_eq_none (by omega:e.counts.length<=j)]]; omega
 have h2:e.counts.getD r.fr.toNat 0≠0:=by
  rw[Bool.or_eq_false_iff] at h1
  have:=h1.2
  simpa using this
 have h3:=h0 r.fr.toNat
 have h4:=h0 i
 rw[aO,List.getD_eq_getElem?_getD,List.getElem?_set]
 split
 ·split
  ·simp only[Option.getD_some]; omega
  ·simp
 ·rw[<- List.getD_eq_getElem?_getD]; exact h4
theorem okF{ρ:Nat->Nat}{nx pn c n:Nat}{h:Hz}{s:List Nat}{o o':OV}(q1:Nat.blt c nx=true)(q2:Nat.blt c pn=true->n=c)(q3:FV n s=true)(q4:(o.good nx&&o.Io)=true)(q5:h.get n=some o')
  (q6:o'.aG.ty=o.aG.ty/\o'.aG.k=o.aG.k) (q7:o.aG.l=o'.aG.l):Nat.blt c nx=true/\(Nat.blt c pn=true->n=c)/\FV n s=true/\o.good nx=true /\
   ∃ o',h.get n=some o'/\o'.aG.ty=o.aG.ty/\o'.aG.k=o.aG.k/\bG (T.bY ρ o.aG.l) o'.aG.l:=by
 rw[Bool.and_eq_true] at q4
 exact⟨q1,q2,q3,q4.1,o',q5,q6.1,q6.2,bG.of_eq ((OV.Bo q4.2 ρ).trans q7)⟩
theorem bz{c:Bool}{a b:Int}(ha:c=true->a≠0)(h:(bif c then a else b)=0):c=false/\b=0:=by
 cases c with
 |true=>exact absurd h (ha rfl)
 |false=>exact⟨rfl,h⟩
theorem nz{a:Int}(h:(a !=0)=true):a≠0:=by simpa using h
theorem je: ∀ {l:List Int},bW l=0-> ∀ x∈l,x=0:=by
 intro l
 induction l with
 |nil=>intro _ x h; cases h
 |cons a r ih =>
  intro h x hx
  simp only[bW] at h
  split at h
  ·rename_i h0
   rcases List.mem_cons.1 hx with rfl|hx
   ·exact h0
   ·exact ih h x hx
  ·rename_i h0; exact absurd h h0
structure Dn(p:aW):Prop where
 pos:0<p.states.length
 states:p.states.length<=6
 values:p.values.length<=3
 acT:p.rules.length<=8
 init:iP p.initial p.states.length=0
 start:p.initial≠[]
 rule: ∀ i,i<p.rules.length->ku p i=0
theorem U4{p:aW}(h:eF p=0):Dn p:=by
 unfold eF at h
 obtain⟨_,h⟩:=bz (fun _=>by decide) h
 obtain⟨_,h⟩:=bz (fun _=>by decide) h
 obtain⟨h0,h⟩:=bz (fun _=>by decide) h
 obtain⟨h1,h⟩:=bz (fun _=>by decide) h
 obtain⟨_,h⟩:=bz nz h
 obtain⟨_,h⟩:=bz (fun _=>by decide) h
 obtain⟨_,h⟩:=bz (fun _=>by decide) h
 obtain⟨h2,h⟩:=bz nz h
 obtain⟨h3,h⟩:=bz nz h
 have h2':I7 p=0:=by simpa using h2
 have h3':FW p=0:=by simpa using h3
 have g:=je h2'
 simp only[wR,Bool.or_eq_false_iff,decide_eq_false_iff_not] at h1
 refine⟨?_,by omega,by omega,by omega,g _ (by simp),?_,fun i hi=>?_⟩
 ·have:(p.states.length:Int)≠0:=by simpa using h0
  omega
 ·intro e
  have:=g (fQ ((p.initial.length:Int)==0) 1) (by simp)
  rw[e] at this; exact absurd this (by decide)
 ·exact je h3' _ (List.mem_map.2 ⟨i,by simpa using hi,rfl⟩)
theorem rO{x:Int}{n:Nat}(h:yg x n=false):0<=x/\x<n:=by
 simp only[yg,Bool.or_eq_false_iff,decide_eq_false_iff_not] at h; omega
theorem Af{x:Int}{n:Nat}(h:fC x n=0):0<=x/\x<n:=by
 refine rO ?_
 unfold fC fQ at h
 cases hb:yg x n with
 |false=>rfl
 |true=>rw[hb] at h; exact absurd h (by decide)
theorem y5{l:List Int}{n:Nat}(h:iP l n=0):rC n l:=by
 unfold iP at h
 obtain⟨h,_⟩:=bz (fun _=>by decide) h
 rw[List.any_eq_false] at h
 exact fun q hq=>rO (by simpa using h q hq)
theorem LZ{n:Nat}: ∀ {l:List Int},Ag l n=0->rC n l:=by
 intro l
 induction l with
 |nil=>intro _ q h; cases h
 |cons x r ih =>
  intro h q hq
  simp only[Ag] at h
  split at h
  ·rename_i h0
   rcases List.mem_cons.1 hq with rfl|hq
   ·exact Af h0
   ·exact ih h q hq
  ·rename_i h0; exact absurd h h0
theorem RQ{k:Int}(h:yh k 1=true):k=1\/k=2\/k=3:=by
 unfold yh at h
 cases h1:(k==1) with
 |true=>exact .inl (beq_iff_eq.1 h1)
 |false =>
  cases h2:(k==2) with
  |true=>exact .inr (.inl (beq_iff_eq.1 h2))
  |false =>
   cases h3:(k==3) with
   |true=>exact .inr (.inr (beq_iff_eq.1 h3))
   |false=>rw[h1,h2,h3] at h; cases hb:(k==4||k==5)<;>rw[hb] at h<;>cases h
structure U5(n:Nat)(p:aW)(r:Rule):Prop where
 place:sN n r
 kind:r.kind=1\/r.kind=2\/r.kind=3
 adJ:rC n r.all
 ex1:r.kind≠1->r.ex=[]/\r.all=[]
 rd:yg r.read p.values.length=false\/r.read= -1
 wr:yg r.write p.values.length=false\/r.write= -1
theorem pK{p:aW}{v:Int}(h:jT p v=0):yg v p.values.length=false\/v= -1:=by
 unfold jT fQ at h
 have h': ¬ (v< -1\/v>=(p.values.length:Int)):=by
  intro q
  have:(decide (v< -1)||decide (v>=(p.values.length:Int)))=true:=by simpa using q
  rw[this] at h; exact absurd h (by decide)
 by_cases e:v= -1
 ·exact .inr e
 ·left
  simp only[yg,Bool.or_eq_false_iff,decide_eq_false_iff_not]; omega
theorem LM{p:aW}{i:Nat}(hv:Dn p)(ht:p.topology=1)(hi:i<p.rules.length):U5 p.states.length p (p.rules.getD i default):=by
 have h:=hv.rule i hi
 have hpos:=hv.pos
 simp only[ku,qE] at h
 generalize (p.rules.getD i default)=r at h ⊢
 obtain⟨_,h⟩:=bz (fun _=>by decide) h
 obtain⟨hb,h⟩:=bz (fun _=>by decide) h
 obtain⟨he,h⟩:=bz nz h
 rw[XK,Bool.or_eq_false_iff] at he
 rw[ht,Bool.or_eq_false_iff] at hb
 have hk:=RQ (show yh r.kind 1=true by simpa using hb.1)
 have hu:y7 r 1=false:=by rw[FX (by omega)]; exact hb.2
 have hun:=RS hu
 have hpf:r.kind≠2->r.kind≠5->r.gU=0/\r.Bl=0:=by
  intro k1 k2
  simp only[y7,Qw,Bool.or_eq_false_iff] at hu
  have h3:=hu.2.2.1
  simp only[beq_eq_false_iff_ne.2 k1,beq_eq_false_iff_ne.2 k2,Bool.not_false,Bool.true_and,Bool.or_eq_false_iff] at h3
  exact⟨RU h3.1,RU h3.2⟩
 have h00:(0:Int)<=0/\(0:Int)<p.states.length:=⟨by omega,by omega⟩
 have pn:rC p.states.length []:=fun q hq=>by cases hq
 rcases hk with e|e|e
 ·rw[e] at h
  have g:=je h
  have⟨a,b⟩:=hpf (by omega) (by omega)
  exact⟨⟨rO he.1,rO he.2,by rw[a]; exact h00,by rw[b]; exact h00,fun q=>by omega,y5 (g (iP r.ex p.states.length) (by simp))⟩,.inl e,y5 (g (iP r.all p.states.length) (by simp)),fun q=>absurd e q,pK (g (jT p r.read) (by simp)),pK (g (jT p r.write) (by simp))⟩
 ·rw[e] at h
  have g:=je h
  obtain⟨_,u1,u2,_⟩:=hun.1 (by omega)
  exact⟨⟨rO he.1,rO he.2,Af (g (fC r.gU p.states.length) (by simp)),Af (g (fC r.Bl p.states.length) (by simp)),fun q=>by omega,by rw[u1]; exact pn⟩,.inr (.inl e),by rw[u2]; exact pn,fun _=>⟨u1,u2⟩,pK (g (jT p r.read) (by simp)),pK (g (jT p r.write) (by simp))⟩
 ·rw[e] at h
  have g:=je h
  have⟨a,b⟩:=hpf (by omega) (by omega)
  obtain⟨_,u1,u2,_⟩:=hun.1 (by omega)
  have hr:=g (Em r.response p.states.length) (by simp)
  unfold Em at hr
  obtain⟨r1,r2⟩:=bz (fun _=>by decide) hr
  exact⟨⟨rO he.1,rO he.2,by rw[a]; exact h00,by rw[b]; exact h00,fun _=>⟨by have q9:(r.response.length:Int)=p.states.length:=(by simpa using r1); omega,LZ r2⟩,by rw[u1]; exact pn⟩,.inr (.inr e),by rw[u2]; exact pn,fun _=>⟨u1,u2⟩,pK (g (jT p r.read) (by simp)),pK (g (jT p r.write) (by simp))⟩
theorem Dj{p:aW}(h:yj p=true):p.topology=1:=by
 simp only[yj,Bool.and_eq_true,beq_iff_eq] at h; exact h.1.1.1
structure ZV(p:aW)(e:Elem):Prop where
 valid:Dn p
 plain:yj p=true
 len:e.counts.length=p.states.length
 nums:Dk e.counts
 val:0<=e.value/\e.value<max 1 (p.values.length:Int)
theorem RX{p:aW}(h:JX p=0):eF p=0/\yj p=true:=by
 unfold JX at h
 obtain⟨h1,h⟩:=bz nz h
 obtain⟨h2,_⟩:=bz (fun _=>by decide) h
 refine⟨by simpa using h1,?_⟩
 simp only[kC] at h2
 cases hp:yj p with
 |true=>rfl
 |false=>rw[hp] at h2; simp at h2
theorem vK{b:Bool}{n:Int}(h:fQ b n=0)(hn:n≠0):b=false:=by
 cases b with
 |false=>rfl
 |true=>exact absurd h hn
theorem XL{x:Int}:A8 x=true↔0<=x/\x<=1048576:=by simp[A8]
theorem JU{p:aW}{e:Elem}(h:uz p e=false):e.counts.length=p.states.length/\Dk e.counts/\0<=e.value/\e.value<max 1 (p.values.length:Int):=by
 simp only[uz,Bool.or_eq_false_iff,decide_eq_false_iff_not] at h
 obtain⟨⟨⟨h1,h2⟩,h3⟩,h4⟩:=h
 refine⟨?_,fun x hx=>?_,by omega,by omega⟩
 ·have:(e.counts.length:Int)=p.states.length:=by simpa using h1
  omega
 ·have:e.counts.all A8=true:=by simpa using h2
  exact XL.1 (List.all_eq_true.1 this x hx)
theorem acU{p:aW}{e:Elem}(h:sJ p e=0):ZV p e:=by
 unfold sJ at h
 obtain⟨h1,h⟩:=bz nz h
 obtain⟨h2,h3⟩:=RX (by simpa using h1)
 obtain⟨a,b,c⟩:=JU (vK h (by decide))
 exact⟨U4 h2,h3,a,b,c⟩
theorem ZV.LM{p:aW}{e:Elem}(h:ZV p e){i:Nat}(hi:i<p.rules.length):U5 e.counts.length p (p.rules.getD i default):=by
 rw[h.len]; exact YtiakcepnlcpanaaGreatDoor.LM h.valid (Dj h.plain) hi
theorem eP{α:Type}{c:Bool}{a b:Option α}{x:α}(h:(bif c then a else b)=some x):a=some x\/b=some x:=by
 cases c with
 |true=>exact .inl h
 |false=>exact .inr h
theorem yX{c:List Int}{i d:Int}:(dW c i d).length=c.length:=by simp[dW]
theorem jG{c:List Int}{i:Int}:(aO c i).length=c.length:=by simp[aO]
theorem Dp{r:Rule}{e x:Elem}(h:aX r e=some x):x.counts.length=e.counts.length:=by
 simp only[aX] at h
 have out: ∀ {c:List Int} {v:Int},c.length=e.counts.length->some (⟨v,dW c r.to 1⟩:Elem)=some x->x.counts.length=e.counts.length:=by
  intro c v hc h; cases h; rw[yX,hc]
 rcases eP h with h|h
 ·cases h
 rcases eP h with h|h
 ·rcases eP h with h|h
  ·cases h
  ·exact out jG h
 rcases eP h with h|h
 ·rcases eP h with h|h
  ·cases h
  ·exact out (by rw[yX,jG,jG]) h
 rcases eP h with h|h
 ·exact out (by rw[qK,jG]) h
 ·exact out jG h
def sK(p:aW)(e:Elem)(k:Nat):List Elem:=(p.rules.take k).filterMap fun r=>aX r e
theorem OD{p:aW}{e:Elem}{k:Nat}(hk:k<p.rules.length):sK p e (k+1)=sK p e k++(aX (p.rules.getD k default) e).toList:=by
 simp only[sK]
 rw[List.take_add_one,List.filterMap_append]
 simp only[List.getElem?_eq_getElem hk,Option.toList_some,List.getD_eq_getElem?_getD,Option.getD_some]
 cases hf:aX p.rules[k] e with
 |none=>simp[hf]
 |some x=>simp[hf]
theorem IY{p:aW}{e:Elem}{k:Nat}:(sK p e k).length<=k:=by
 have h1:=List.length_filterMap_le (fun r=>aX r e) (p.rules.take k)
 simp at h1; unfold sK; omega
theorem Ei{p:aW}{e:Elem}{k:Nat}{x:Elem}(h:x∈sK p e k):x.counts.length=e.counts.length:=by
 obtain⟨r,_,h2⟩:=List.mem_filterMap.1 h
 exact Dp h2
def x8(p:aW)(e:Elem):List Elem:=bif sJ p e !=0 then [] else uI (sK p e p.rules.length)
theorem ah.tidy{h:Hz}{i n:Nat}{l:List Elem}{K:V->Hz->Prop}{KW:Nat->V->Hz->Prop}(hi:h.get i=some (jE l))(hn:h.get n=none)(hl:l.length<2^30)(hs:wS l)
  (h1:K (.own i) ((i,some (jE (uI l)))::h)) (h2: ∀ m,K (.nC i 0 (uI l).length) ((i,some (.row 38 3 (.elems (uI l)) (List.replicate m zeroV)))::h)):ah Tryz.prog false none 27 [.own i] h n K KW:=by
 refine ah.Dq (ts:=[.own 0]) (S.sU l 1 hl hs) rfl rfl rfl rfl hi hn ?_
 rintro t hp (⟨rfl,rfl⟩|⟨m,rfl,rfl⟩)
 ·exact .inl ⟨.own i,jE (uI l),rfl,rfl,rfl,h1⟩
 ·exact .inl ⟨.nC i 0 _,.row 38 3 (.elems (uI l)) (List.replicate m zeroV),rfl,JY _ _,rfl,h2 m⟩
theorem aA.abJ{h:Hz}{j:Nat}{l:List Elem}{c:Int}(q:h.get j=some (jE l)):aA (.dM [.row 3 false (.elems l),.int c]) (.dM [.own j,.int c]) h:=⟨by
 have:=U6 (Z:=fun _=>True) trivial q
 show T.sub (fun _=>True) h.aj (.dM [.sl 3 false (l.map fU),.int c]) (.dM [.own j,.int c])
 simp only[T.sub,T.cu]
 replace this:T.sub (fun _=>True) h.aj (.sl 3 false (l.map fU)) (.own j):=this
 simp only[T.sub] at this
 exact⟨this,trivial,trivial⟩⟩
theorem aA.abK{h:Hz}{j m:Nat}{l:List Elem}{c:Int}(q:h.get j=some (.row 38 3 (.elems l) (List.replicate m zeroV))):aA (.dM [.row 3 false (.elems l),.int c]) (.dM [.nC j 0 l.length,.int c]) h:=⟨by
 have:=(aA.acV q).ok
 show T.sub (fun _=>True) h.aj (.dM [.sl 3 false (l.map fU),.int c]) (.dM [.nC j 0 l.length,.int c])
 simp only[T.sub,T.cu]
 replace this:T.sub (fun _=>True) h.aj (.sl 3 false (l.map fU)) (.nC j 0 l.length):=this
 simp only[T.sub] at this
 exact⟨this,trivial,trivial⟩⟩
theorem aA.abL{h:Hz}{k:Nat}{c:Int}:aA (.dM [.row 3 false (.elems []),.int c]) (.dM [.row k true .nil,.int c]) h:=⟨by
 show T.sub (fun _=>True) h.aj (.dM [.sl 3 false [],.int c]) (.dM [.sl k true [],.int c])
 simp[T.sub,T.cu]⟩
theorem S.sO(p:aW)(e:Elem)(hp:dI p)(he:e.counts.length<2^30):au Tryz.prog 9 [.dat (.eU p),.dat (.elem e)] (.dM [.row 3 false (.elems (x8 p e)),.int (sJ p e)]):=by
 have hpr:=hp.rules
 refine au.of Bd.sO (by simp) rfl rfl ?_
 conv=>whnf
 refine ah.pure (S.gX p e hp he) rfl ?_
 conv=>whnf
 refine⟨fun h1=>?_,fun h1=>?_⟩
 ·conv=>whnf
  rw[x8,h1]
  exact aA.abL
 replace h1:(sJ p e !=0)=false:=h1
 have h1':sJ p e=0:=FQ h1
 have hF:=acU h1'
 have hst:=hF.valid.states
 have hlen:=hF.len
 have hS:x8 p e=uI (sK p e p.rules.length):=by rw[x8,h1]; rfl
 rw[hS,h1']
 conv=>whnf
 refine aU.nil 7 38 3 (by rfl) rfl rfl rfl ?_
 refine aU.objs 3 [3,19,20] (fun i:Nat=>[(21,.int i),(7,.own 2)]) (fun i=>[(1,.box 38 3 (.dat (.elem e))),(2,jE (sK p e i))]) (fun i=>i<=p.rules.length) (fun i=>p.rules.length-i) 0 [1,15] rfl (by decide) (fun _=>rfl) (Nat.zero_le _) ?_ ?_ ?_
 ·exact⟨⟨_,rfl,.eq rfl⟩,⟨_,rfl,.eq rfl⟩,trivial⟩
 ·exact⟨⟨rfl,nofun,rfl,rfl,rfl,_,rfl,rfl,rfl,bG.of_eq rfl⟩,⟨rfl,nofun,rfl,rfl,rfl,_,rfl,rfl,rfl,bG.of_eq rfl⟩,trivial⟩
 conv=>whnf
 refine⟨⟨⟨_,rfl,.eq rfl⟩,⟨_,rfl,.eq rfl⟩,⟨_,rfl,.eq rfl⟩,trivial⟩,rfl,?_⟩
 rintro i hi
 have hpl:=IY (p:=p) (e:=e) (k:=i)
 conv=>whnf
 refine⟨fun h3=>?_,fun h3=>?_⟩
 ·have hi':i<p.rules.length:=by simpa using h3
  have hstep:=OD (e:=e) hi'
  conv=>whnf
  refine .mk (by simp only[Rw.rng] at *; first|omega|(simp_all; done)|(simp_all; omega)) ?_
  conv=>whnf
  refine ah.pure (au.LY (S.qM (p.rules.getD i default) e (hp.rule i) (hF.LM hi').place hF.nums (by omega))) rfl ?_
  conv=>whnf
  refine⟨fun h4=>?_,fun h4=>?_⟩
  ·obtain⟨x,hx⟩:=Option.isSome_iff_exists.1 h4
   rw[show aX (p.rules.getD i default) e=some x from hx] at hstep
   rw[hx]
   conv=>whnf
   repeat(refine VC.mk (by first|(show((sK p e i).length+(0+1))*32<=140737488355328/\(sK p e i).length+(0+1)<=1152921504606846976; omega)|(simp only[okI] at *; first|omega|(simp_all; done)|(simp_all; omega))) ?_; conv=>whnf)
   refine⟨i+1,[1,21],by omega,by omega,⟨⟨_,rfl,.eq rfl⟩,⟨_,rfl,.eq rfl⟩,trivial⟩,⟨⟨_,rfl,.eq rfl⟩,⟨_,rfl,.eq rfl⟩,⟨_,rfl,.eq rfl⟩,trivial⟩,⟨rfl,nofun,rfl,rfl,rfl,_,rfl,rfl,rfl,bG.of_eq rfl⟩,⟨rfl,nofun,rfl,rfl,rfl,_,rfl,rfl,rfl,bG.of_eq ?_⟩,trivial⟩
   rw[hstep]
   show List.map fU _++[]=List.map fU _++[fU _]
   simp
  ·replace h4:(aX (p.rules.getD i default) e).isSome=false:=h4
   rw[Option.isSome_eq_false_iff,Option.isNone_iff_eq_none] at h4
   rw[h4] at hstep
   conv=>whnf
   refine .mk (by simp only[okI] at *; first|omega|(simp_all; done)|(simp_all; omega)) ?_
   conv=>whnf
   refine⟨i+1,[1,2],by omega,by omega,⟨⟨_,rfl,.eq rfl⟩,⟨_,rfl,.eq rfl⟩,trivial⟩,⟨⟨_,rfl,.eq rfl⟩,⟨_,rfl,.eq rfl⟩,⟨_,rfl,.eq rfl⟩,trivial⟩,⟨rfl,nofun,rfl,rfl,rfl,_,rfl,rfl,rfl,bG.of_eq rfl⟩,⟨rfl,nofun,rfl,rfl,rfl,_,rfl,rfl,rfl,bG.of_eq ?_⟩,trivial⟩
   rw[hstep]; simp
 ·have hi':i=p.rules.length:=by
   have: ¬ ((i:Int)<(p.rules.length:Int)):=of_decide_eq_false h3
   omega
  subst hi'
  conv=>whnf
  refine ah.tidy rfl rfl (by omega) (fun x hx=>by rw[Ei hx]; omega) ?_ (fun m=>?_)
  ·conv=>whnf
   exact aA.abJ rfl
  ·conv=>whnf
   exact aA.abK rfl
structure oO(q:Prop'):Prop where
 start:q.start.length<2^30
 bad:q.bad.length<2^30
 adjacent:q.adjacent.length<2^30
 goal:q.goal.length<2^30
 cnt: ∀ i,(q.bad.getD i default).states.length<2^30
def sV(c:Cnt):Bool:=((c.states.length:Int)==0||decide (c.least<1))||decide (c.least>3)
def U7(n:Int)(c:Cnt):Int:=bW [iP c.states n,fQ (sV c) 1]
def y8(l:List Cnt)(n:Int):Int:=bW (l.map (U7 n))
def OE(p:aW)(l:List Int):Int:=bif (l.length:Int)==0 then 0 else bif p.topology==1 then 6 else bif (l.length:Int) !=2 then 1 else bW [fC (l.getD 0 0) p.states.length,fC (l.getD 1 0) p.states.length]
def wU(q:Prop'):Bool:=((q.kind==1)&&decide ((q.goal.length:Int)>0))||(!(q.kind==1)&&(decide ((q.bad.length:Int)>0)||decide ((q.adjacent.length:Int)>0)))
def qO(p:aW)(q:Prop'):Int :=
 let n:Int:=p.states.length
 bif eF p !=0 then eF p else bif !(validName q.name) then 2 else bif !(q.kind==1)&&q.kind !=2 then 1 else bif wU q then 1 else
 bif iP q.start n !=0 then iP q.start n else bif q.start.any (fun x=> !(Qv p.initial x)) then 5 else
 bif !(q.kind==1) then bW [iP q.goal n,fQ ((q.goal.length:Int)==0) 1] else
 bW [fQ (((q.bad.length:Int)==0)&&((q.adjacent.length:Int)==0)) 1,fQ (decide ((q.bad.length:Int)>3)) 4,y8 q.bad n,OE p q.adjacent]
theorem S.lC(l:List Cnt)(n:Int)(f:Bool)(hl:l.length<2^30)(hs: ∀ i,(l.getD i default).states.length<2^30):au Tryz.prog 80 [.row 3 f (.cnts l),.int n] (.int (y8 l n)):=by
 refine au.of Bd.lC (by simp) rfl rfl ?_
 conv=>whnf
 refine aU.same [1,8,9] (fun i:Nat=>[(10,.int i)]) (fun i=>i<=l.length/\y8 l n=bW ((l.drop i).map (U7 n))) (fun i=>l.length-i) 0 rfl (by decide) rfl (fun _=>rfl) ⟨by omega,by simp[y8]⟩ ⟨⟨_,rfl,rfl⟩,trivial⟩ ?_
 conv=>whnf
 refine⟨rfl,?_⟩
 rintro i ⟨hi,hall⟩
 conv=>whnf
 refine⟨fun h3=>?_,fun h3=>?_⟩
 ·have hi':i<l.length:=by simpa using h3
  rw[cO default hi',List.map_cons] at hall
  simp only[bW] at hall
  have hc:=hs i
  conv=>whnf
  refine .mk (by simp only[Rw.rng] at *; omega) ?_
  conv=>whnf
  refine ah.pure (S.dJ (l.getD i default).states n false (by omega)) rfl ?_
  conv=>whnf
  repeat(refine VC.mk (by first|exact id|(intro h; rw[h]; rfl)) ?_; conv=>whnf)
  refine ah.pure (S.bK (sV (l.getD i default)) 1) rfl ?_
  conv=>whnf
  refine ah.pure (S.bH [iP (l.getD i default).states n,fQ (sV (l.getD i default)) 1] true (show 2<2^40 by decide)) rfl ?_
  conv=>whnf
  refine⟨fun h4=>?_,fun h4=>?_⟩
  ·conv=>whnf
   refine aA.int ?_
   have h4':U7 n (l.getD i default)≠0:=nz h4
   rw[hall,if_neg h4']; rfl
  ·conv=>whnf
   refine .mk (by simp only[okI] at *; omega) ?_
   conv=>whnf
   have h4':U7 n (l.getD i default)=0:=FQ h4
   rw[if_pos h4'] at hall
   refine⟨i+1,⟨by omega,hall⟩,by omega,⟨⟨_,rfl,rfl⟩,trivial⟩,?_,rfl⟩
   repeat' (first|exact trivial|exact⟨_,rfl,rfl⟩|constructor)
 ·have hi':l.length<=i:=by simpa using h3
  rw[List.drop_eq_nil_of_le hi'] at hall
  conv=>whnf
  exact aA.int (by rw[hall]; rfl)
theorem S.jL(p:aW)(l:List Int)(f:Bool)(_hl:l.length<2^30):au Tryz.prog 81 [.dat (.eU p),.row 0 f (.ints l)] (.int (OE p l)):=by
 refine au.of Bd.jL (by simp) rfl rfl ?_
 conv=>whnf
 refine⟨fun h1=>?_,fun h1=>?_⟩
 ·conv=>whnf
  exact aA.int (by rw[OE,h1]; rfl)
 conv=>whnf
 refine⟨fun h2=>?_,fun h2=>?_⟩
 ·conv=>whnf
  exact aA.int (by rw[OE,h1,h2]; rfl)
 conv=>whnf
 refine⟨fun h3=>?_,fun h3=>?_⟩
 ·conv=>whnf
  exact aA.int (by rw[OE,h1,h2,h3]; rfl)
 have h4:l.length=2:=by
  have:(l.length:Int)=2:=by simpa using h3
  omega
 conv=>whnf
 repeat(refine VC.mk (by simp only[Rw.rng] at *; omega) ?_; conv=>whnf)
 refine ah.pure (S.bM (l.getD 0 0) p.states.length) rfl ?_
 conv=>whnf
 refine ah.pure (S.bM (l.getD 1 0) p.states.length) rfl ?_
 conv=>whnf
 refine ah.pure (S.bH [fC (l.getD 0 0) p.states.length,fC (l.getD 1 0) p.states.length] true (show 2<2^40 by decide)) rfl ?_
 conv=>whnf
 exact aA.int (by rw[OE,h1,h2,h3]; rfl)
theorem S.dH(p:aW)(q:Prop')(hp:dI p)(hq:oO q):au Tryz.prog 58 [.dat (.eU p),.dat (.prop q)] (.int (qO p q)):=by
 have g1:=hp.states; have g5:=hp.initial
 have q1:=hq.start; have q2:=hq.bad; have q3:=hq.adjacent; have q4:=hq.goal
 refine au.of Bd.dH (by simp) rfl rfl ?_
 conv=>whnf
 refine ah.pure (S.iG p hp) rfl ?_
 conv=>whnf
 refine⟨fun h1=>?_,fun h1=>?_⟩
 ·conv=>whnf
  exact aA.int (by rw[qO,h1]; rfl)
 conv=>whnf
 refine ah.pure (S.fG q.name) rfl ?_
 conv=>whnf
 refine⟨fun h2=>?_,fun h2=>?_⟩
 ·conv=>whnf
  exact aA.int (by rw[qO,h1,h2]; rfl)
 conv=>whnf
 repeat(refine VC.mk id ?_; conv=>whnf)
 refine⟨fun h3=>?_,fun h3=>?_⟩
 ·conv=>whnf
  exact aA.int (by rw[qO,h1,h2,h3]; rfl)
 conv=>whnf
 repeat(refine VC.mk id ?_; conv=>whnf)
 refine⟨fun h4=>?_,fun h4=>?_⟩
 ·conv=>whnf
  refine Fork.mk (fun _=>?_) (fun q=>absurd (q.symm.trans (h4)) Bool.false_ne_true)
  conv=>whnf
  exact aA.int (by rw[qO,h1,h2,h3,show wU q=true by rw[wU]; erw [h4]; rfl]; rfl)
 conv=>whnf
 repeat(refine VC.mk (by first|exact id|(intro h; simp_all; done)) ?_; conv=>whnf)
 refine⟨fun h5=>?_,fun h5=>?_⟩
 ·conv=>whnf
  exact aA.int (by rw[qO,h1,h2,h3,show wU q=true by rw[wU]; erw [h5]; simp]; rfl)
 have h45:wU q=false:=by rw[wU]; erw [h4,h5]; rfl
 conv=>whnf
 refine ah.pure (S.dJ q.start p.states.length false (by omega)) rfl ?_
 conv=>whnf
 refine⟨fun h6=>?_,fun h6=>?_⟩
 ·conv=>whnf
  exact aA.int (by rw[qO,h1,h2,h3,h45,h6]; rfl)
 conv=>whnf
 refine aU.same [2,3,6,7,65,66] (fun i:Nat=>[(67,.int i)]) (fun i=>i<=q.start.length/\(q.start.take i).any (fun x=> !(Qv p.initial x))=false) (fun i=>q.start.length-i) 0 rfl (by decide) rfl (fun _=>rfl) ⟨by omega,by simp⟩ ⟨⟨_,rfl,rfl⟩,trivial⟩ ?_
 conv=>whnf
 refine⟨rfl,?_⟩
 rintro i ⟨hi,hall⟩
 conv=>whnf
 refine⟨fun h7=>?_,fun h7=>?_⟩
 ·have hi':i<q.start.length:=by simpa using h7
  conv=>whnf
  refine .mk (by simp only[Rw.rng] at *; omega) ?_
  conv=>whnf
  refine ah.pure (S.slices_Contains_int p.initial (q.start.getD i 0) false (by omega)) rfl ?_
  conv=>whnf
  refine⟨fun h8=>?_,fun h8=>?_⟩
  ·conv=>whnf
   exact aA.int (by rw[qO,h1,h2,h3,h45,h6,wV (d:=0) hi' h8]; rfl)
  ·conv=>whnf
   refine .mk (by simp only[okI] at *; omega) ?_
   conv=>whnf
   refine⟨i+1,⟨by omega,?_⟩,by omega,⟨⟨_,rfl,rfl⟩,trivial⟩,?_,rfl⟩
   ·rw[Bq (d:=0) hi' hall]; exact h8
   ·repeat' (first|exact trivial|exact⟨_,rfl,rfl⟩|constructor)
 have hi':q.start.length<=i:=by simpa using h7
 rw[List.take_of_length_le hi'] at hall
 conv=>whnf
 refine⟨fun h8=>?_,fun h8=>?_⟩
 ·conv=>whnf
  refine ah.pure (S.dJ q.goal p.states.length false (by omega)) rfl ?_
  conv=>whnf
  refine ah.pure (S.bK ((q.goal.length:Int)==0) 1) rfl ?_
  conv=>whnf
  refine ah.pure (S.bH [iP q.goal p.states.length,fQ ((q.goal.length:Int)==0) 1] true (show 2<2^40 by decide)) rfl ?_
  conv=>whnf
  exact aA.int (by rw[qO,h1,h2,h3,h45,h6,hall,h8]; rfl)
 conv=>whnf
 repeat(refine VC.mk id ?_; conv=>whnf)
 refine ah.pure (S.bK (((q.bad.length:Int)==0)&&((q.adjacent.length:Int)==0)) 1) rfl ?_
 conv=>whnf
 refine ah.pure (S.bK (decide ((q.bad.length:Int)>3)) 4) rfl ?_
 conv=>whnf
 refine ah.pure (S.lC q.bad p.states.length false q2 hq.cnt) rfl ?_
 conv=>whnf
 refine ah.pure (S.jL p q.adjacent false q3) rfl ?_
 conv=>whnf
 refine ah.pure (S.bH [fQ (((q.bad.length:Int)==0)&&((q.adjacent.length:Int)==0)) 1,fQ (decide ((q.bad.length:Int)>3)) 4,y8 q.bad p.states.length,OE p q.adjacent] true (show 4<2^40 by decide)) rfl ?_
 conv=>whnf
 exact aA.int (by rw[qO,h1,h2,h3,h45,h6,hall,h8]; rfl)
end Go.Proofs.YtiakcepnlcpanaaGreatDoor
namespace Go.Proofs.YtiakcepnlcpanaaGreatDoor
open Go.Ab Go.Proofs
set_option maxRecDepth 100000
theorem aA.acW{h:Hz}{j:Nat}{l:List Int}(q:h.get j=some (jK l)):aA (.row 0 false (.ints l)) (.own j) h:=⟨FU trivial q⟩
theorem aA.acX{h:Hz}{k k':Nat}{r:Rw}(e:r.len=0):aA (.row k false r) (.row k' true .nil) h:=⟨by
 have:r.aS=[]:=List.eq_nil_of_length_eq_zero (by rw[Rw.eG]; exact e)
 show T.sub (fun _=>True) h.aj (.sl k false r.aS) (.sl k' true [])
 rw[this]; simp[T.sub]⟩
theorem S.I8(l:List Int)(f:Bool)(hl:l.length<2^30):au Tryz.prog 57 [.row 0 f (.ints l)] (.row 0 false (.ints l)):=by
 refine au.of Bd.jw (by simp) rfl rfl ?_
 conv=>whnf
 refine U8.mk (fun hz=>?_) ?_
 ·conv=>whnf
  refine Fork.mk (fun _=>?_) (fun q=>absurd (q.symm.trans ((rfl:true=true))) Bool.false_ne_true)
  conv=>whnf
  exact aA.acX hz
 ·conv=>whnf
  refine Fork.mk (fun q=>absurd (q.symm.trans ((rfl:false=false))).symm Bool.false_ne_true) (fun _=>?_)
  conv=>whnf
  refine .mk (by simp only[oQ,og,Rw.len]; omega) ?_
  conv=>whnf
  repeat(refine VC.mk (by simp only[oQ,og,Rw.len]; omega) ?_; conv=>whnf)
  exact aA.acW rfl
def yt(p:aW)(q:Prop'):List Int:=bif decide ((q.start.length:Int)>0) then q.start else p.initial
theorem S.lD(p:aW)(q:Prop')(hp:dI p)(hq:oO q)(hv:qO p q=0):au Tryz.prog 59 [.dat (.eU p),.dat (.prop q)] (.dM [.row 0 false (.ints (yt p q)),.int 0]):=by
 have g5:=hp.initial; have q1:=hq.start
 refine au.of Bd.lD (by simp) rfl rfl ?_
 conv=>whnf
 refine ah.pure (S.dH p q hp hq) rfl ?_
 conv=>whnf
 refine Fork.mk (fun q=>absurd (q.symm.trans ((by simp[hv]))).symm Bool.false_ne_true) (fun _=>?_)
 conv=>whnf
 refine⟨fun h2=>?_,fun h2=>?_⟩
 ·conv=>whnf
  refine ah.pure (S.I8 q.start false q1) rfl ?_
  conv=>whnf
  exact aA.eqv (by rw[yt,show decide ((q.start.length:Int)>0)=true from h2]; rfl)
 ·conv=>whnf
  refine ah.pure (S.I8 p.initial false g5) rfl ?_
  conv=>whnf
  exact aA.eqv (by rw[yt,show decide ((q.start.length:Int)>0)=false from h2]; rfl)
theorem RY{p:aW}{q:Prop'}(hp:dI p)(hq:oO q):(yt p q).length<2^30:=by
 unfold yt
 cases decide ((q.start.length:Int)>0)
 ·exact hp.initial
 ·exact hq.start
end Go.Proofs.YtiakcepnlcpanaaGreatDoor
