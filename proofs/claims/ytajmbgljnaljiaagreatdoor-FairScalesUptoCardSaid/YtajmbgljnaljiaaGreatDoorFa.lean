/-
 A part of the proof. No condition.
-/
import Derived.Test.YtajmbgljnaljiaaGreatDoorRb
import Derived.Test.YtajmbgljnaljiaaGreatDoorLg
import Derived.Test.YtajmbgljnaljiaaGreatDoorKa
namespace Go.Proofs.YtajmbgljnaljiaaGreatDoor
open Go.Ab Go.Proofs
set_option maxRecDepth 100000
def FD(s:Int):List Int->Nat->Int
 |[],_=> -1
 |x::r,i=>bif s==x then(i:Int) else FD s r (i+1)
theorem aa1{s:Int}{l:List Int}:decide (0<=FD s l 0)=l.any fun x=>s==x:=by
 have: ∀ {l:List Int} {i:Nat},0<=FD s l i↔(l.any fun x=>s==x)=true:=by
  intro l
  induction l with
  |nil=>intro i; simp[FD]
  |cons x r ih =>
   intro i
   rw[List.any_cons,Bool.or_eq_true,<- ih (i:=i+1)]
   show(0:Int)<=(bif s==x then(i:Int) else FD s r (i+1))↔_
   generalize (s==x)=b
   cases b<;>simp
 rw[Bool.eq_iff_iff,decide_eq_true_eq]; exact this
theorem S.slices_Index_int(l:List Int)(s:Int)(f:Bool)(hl:l.length<2^40):aj Tryz.prog 108 [.row 0 f (.ints l),.int s] (.int (FD s l 0)):=by
 refine aj.of Bd.ny (by simp) rfl rfl ?_
 conv=>whnf
 refine aB.same [0,1,6,7] (fun i:Nat=>[(8,.int i)]) (fun i=>i<=l.length/\FD s l 0=FD s (l.drop i) i) (fun i=>l.length-i) 0 rfl (by decide) rfl (fun _=>rfl) ⟨by omega,by simp⟩ ⟨⟨_,rfl,rfl⟩,trivial⟩ ?_
 conv=>whnf
 refine⟨rfl,?_⟩
 rintro i ⟨hi,hall⟩
 conv=>whnf
 refine⟨fun h3=>?_,fun h3=>?_⟩
 ·have hi':i<l.length:=by simpa using h3
  rw[dU 0 hi'] at hall
  simp only[FD] at hall
  conv=>whnf
  refine .mk (by simp only[Rw.rng] at *; first|omega|(simp_all; done)|(simp_all; omega)) ?_
  conv=>whnf
  refine⟨fun h4=>?_,fun h4=>?_⟩
  ·conv=>whnf
   refine ak.int ?_
   have h4':(s==l.getD i 0)=true:=h4
   rw[hall,h4']; rfl
  ·conv=>whnf
   refine .mk (by simp only[okI] at *; first|omega|(simp_all; done)|(simp_all; omega)) ?_
   conv=>whnf
   refine⟨i+1,⟨by omega,?_⟩,by omega,⟨⟨_,rfl,rfl⟩,trivial⟩,?_,rfl⟩
   ·have h4':(s==l.getD i 0)=false:=h4
    rw[hall,h4']; rfl
   ·repeat' (first|exact trivial|exact⟨_,rfl,rfl⟩|constructor)
 ·conv=>whnf
  refine ak.int ?_
  have hi':l.length<=i:=by simpa using h3
  rw[hall,List.drop_eq_nil_of_le hi']; rfl
def Ef(l:List Int)(s:Int):Bool:=l.any fun x=>s==x
theorem S.slices_Contains_int(l:List Int)(s:Int)(f:Bool)(hl:l.length<2^40):aj Tryz.prog 74 [.row 0 f (.ints l),.int s] (.bool (Ef l s)):=by
 refine aj.of Bd.kV (by simp) rfl rfl ?_
 conv=>whnf
 refine ah.pure (S.slices_Index_int l s f hl) rfl ?_
 conv=>whnf
 exact ak.bool aa1.symm
theorem S.J9(l:List Int)(s:Int)(f:Bool)(hl:l.length<2^40):aj Tryz.prog 147 [.row 0 f (.ints l),.int s] (.bool (Ef l s)):=by
 refine aj.of Bd.J9 (by simp) rfl rfl ?_
 conv=>whnf
 refine aB.same [0,1] (fun i:Nat=>[(5,.int i)]) (fun i=>i<=l.length/\(l.take i).any (fun x=>s==x)=false) (fun i=>l.length-i) 0 rfl (by decide) rfl (fun _=>rfl) ⟨by omega,by simp⟩ ⟨⟨_,rfl,rfl⟩,trivial⟩ ?_
 conv=>whnf
 refine⟨rfl,?_⟩
 rintro i ⟨hi,hall⟩
 conv=>whnf
 refine⟨fun h3=>?_,fun h3=>?_⟩
 ·have hi':i<l.length:=by simpa using h3
  conv=>whnf
  refine .mk (by simp only[Rw.rng] at *; first|omega|(simp_all; done)|(simp_all; omega)) ?_
  conv=>whnf
  refine⟨fun h4=>?_,fun h4=>?_⟩
  ·have h4':(s==l.getD i 0)=true:=by rw[show(s==l.getD i 0)=(l.getD i 0==s) from Bool.beq_comm]; exact h4
   conv=>whnf
   exact ak.bool (iU (d:=0) hi' h4')
  ·have h4':(s==l.getD i 0)=false:=by rw[show(s==l.getD i 0)=(l.getD i 0==s) from Bool.beq_comm]; exact h4
   conv=>whnf
   refine .mk (by simp only[okI] at *; first|omega|(simp_all; done)|(simp_all; omega)) ?_
   conv=>whnf
   refine⟨i+1,⟨by omega,?_⟩,by omega,⟨⟨_,rfl,rfl⟩,trivial⟩,?_,rfl⟩
   ·rw[kN (d:=0) hi' hall]; exact h4'
   ·repeat' (first|exact trivial|exact⟨_,rfl,rfl⟩|constructor)
 ·have hi':l.length<=i:=by simpa using h3
  rw[List.take_of_length_le hi'] at hall
  conv=>whnf
  exact ak.bool hall
def FH(c l:List Int):Bool:=l.any fun q=>decide (c.getD q.toNat 0>0)
def rE(n:Nat)(l:List Int):Prop:= ∀ q∈l,0<=q/\q<n
theorem S.BR(c l:List Int)(f g:Bool)(_hc:c.length<2^40)(hl:l.length<2^40)(hp:rE c.length l):aj Tryz.prog 119 [.row 0 f (.ints c),.row 0 g (.ints l)] (.bool (FH c l)):=by
 refine aj.of Bd.BR (by simp) rfl rfl ?_
 conv=>whnf
 refine aB.same [0,1] (fun i:Nat=>[(5,.int i)]) (fun i=>i<=l.length/\(l.take i).any (fun q=>decide (c.getD q.toNat 0>0))=false) (fun i=>l.length-i) 0 rfl (by decide) rfl (fun _=>rfl) ⟨by omega,by simp⟩ ⟨⟨_,rfl,rfl⟩,trivial⟩ ?_
 conv=>whnf
 refine⟨rfl,?_⟩
 rintro i ⟨hi,hall⟩
 conv=>whnf
 refine⟨fun h3=>?_,fun h3=>?_⟩
 ·have hi':i<l.length:=by simpa using h3
  have hq:0<=l.getD i 0/\l.getD i 0<c.length:=by
   rw[show l.getD i 0=l[i] by simp[hi']]; exact hp _ (List.getElem_mem hi')
  conv=>whnf
  repeat(refine VC.mk (by simp only[Rw.rng] at *; first|omega|(simp_all; done)|(simp_all; omega)) ?_; conv=>whnf)
  refine⟨fun h4=>?_,fun h4=>?_⟩
  ·conv=>whnf
   exact ak.bool (iU (d:=0) hi' h4)
  ·conv=>whnf
   refine .mk (by simp only[okI] at *; first|omega|(simp_all; done)|(simp_all; omega)) ?_
   conv=>whnf
   refine⟨i+1,⟨by omega,?_⟩,by omega,⟨⟨_,rfl,rfl⟩,trivial⟩,?_,rfl⟩
   ·rw[kN (d:=0) hi' hall]; exact h4
   ·repeat' (first|exact trivial|exact⟨_,rfl,rfl⟩|constructor)
 ·have hi':l.length<=i:=by simpa using h3
  rw[List.take_of_length_le hi'] at hall
  conv=>whnf
  exact ak.bool hall
def Bz(c l:List Int):Bool:=(List.range c.length).any fun i=>decide (c.getD i 0>0)&& !(Ef l i)
theorem S.uH(c l:List Int)(f g:Bool)(hc:c.length<2^40)(hl:l.length<2^40):aj Tryz.prog 120 [.row 0 f (.ints c),.row 0 g (.ints l)] (.bool (Bz c l)):=by
 refine aj.of Bd.uH (by simp) rfl rfl ?_
 conv=>whnf
 refine aB.same [0,1] (fun i:Nat=>[(5,.int i)]) (fun i=>i<=c.length/\(List.range i).any (fun i=>decide (c.getD i 0>0)&& !(Ef l i))=false) (fun i=>c.length-i) 0 rfl (by decide) rfl (fun _=>rfl) ⟨by omega,by simp⟩ ⟨⟨_,rfl,rfl⟩,trivial⟩ ?_
 conv=>whnf
 refine⟨rfl,?_⟩
 rintro i ⟨hi,hall⟩
 conv=>whnf
 refine⟨fun h3=>?_,fun h3=>?_⟩
 ·have hi':i<c.length:=by simpa using h3
  conv=>whnf
  repeat(refine VC.mk (by first|exact fun h=>⟨h,h⟩|(simp only[Rw.rng] at *; first|omega|(simp_all; done)|(simp_all; omega))) ?_; conv=>whnf)
  refine ah.dM (fun _=>S.J9 l i g hl) rfl ?_
  conv=>whnf
  repeat(refine VC.mk id ?_; conv=>whnf)
  refine⟨fun h4=>?_,fun h4=>?_⟩
  ·conv=>whnf
   exact ak.bool (oO.2 ⟨i,hi',h4⟩)
  ·conv=>whnf
   refine .mk (by simp only[okI] at *; first|omega|(simp_all; done)|(simp_all; omega)) ?_
   conv=>whnf
   refine⟨i+1,⟨by omega,?_⟩,by omega,⟨⟨_,rfl,rfl⟩,trivial⟩,?_,rfl⟩
   ·rw[List.range_succ,List.any_append,hall]
    simp only[List.any_cons,List.any_nil,Bool.or_false,Bool.false_or]; exact h4
   ·repeat' (first|exact trivial|exact⟨_,rfl,rfl⟩|constructor)
 ·have hi':c.length<=i:=by simpa using h3
  have e:i=c.length:=Nat.le_antisymm hi hi'
  subst e
  conv=>whnf
  exact ak.bool hall
def wH(ex c:List Int)(i:Nat):Bool:=((ex.length:Int)==0)||(List.range i).any fun j=> !(c.getD j 0==0)&&Ef ex j
def zW(al c:List Int)(i:Nat):Bool:=(List.range i).any fun j=> !(c.getD j 0==0)&&(decide ((al.length:Int)>0)&& !(Ef al j))
def rH(r:Rule)(c:List Int):Bool:= !(zW r.all c c.length)&&wH r.ex c c.length
theorem JB{ex c:List Int}{i:Nat}:wH ex c (i+1)=(wH ex c i||(!(c.getD i 0==0)&&Ef ex i)):=by
 simp only[wH,List.range_succ,List.any_append,List.any_cons,List.any_nil,Bool.or_false,Bool.or_assoc]
theorem JA{al c:List Int}{i:Nat}:zW al c (i+1)=(zW al c i||(!(c.getD i 0==0)&&(decide ((al.length:Int)>0)&& !(Ef al i)))):=by
 simp only[zW,List.range_succ,List.any_append,List.any_cons,List.any_nil,Bool.or_false]
theorem Qw{al c:List Int}{i:Nat}(hi:i<c.length)(h0:(c.getD i 0==0)=false)(h:(decide ((al.length:Int)>0)&& !(Ef al i))=true):zW al c c.length=true :=
 oO.2 ⟨i,hi,by rw[h0,h]; rfl⟩
structure sW(n:Nat)(r:Rule):Prop where
 src:0<=r.fr/\r.fr<n
 dst:0<=r.to/\r.to<n
 Uz:0<=r.fQ/\r.fQ<n
 UA:0<=r.Bj/\r.Bj<n
 rsp:r.kind=3->r.response.length=n/\rE n r.response
 exs:rE n r.ex
def EZ(c:List Int):Prop:= ∀ x∈c,0<=x/\x<=1048576
def gY(c:List Int)(i d:Int):List Int:=c.set i.toNat (c.getD i.toNat 0+d)
def aU(c:List Int)(i:Int):List Int:=c.set i.toNat (c.getD i.toNat 0-1)
def pK(r:Rule)(c:List Int)(i:Nat):List Int:=(List.range i).foldl (fun a j=>gY a (r.response.getD j 0) (c.getD j 0)) (List.replicate c.length 0)
def eP(r:Rule)(e:Elem):Option Elem :=
 let c1:=aU e.counts r.fr
 let out (c:List Int):Option Elem:=some ⟨bif decide (r.write>=0) then r.write else e.value,gY c r.to 1⟩
 bif (decide (0<=r.read)&&e.value !=r.read||e.counts.getD r.fr.toNat 0==0) then none else
 bif r.kind==1 then(bif !(rH r c1) then none else out c1) else
 bif r.kind==2 then(bif c1.getD r.fQ.toNat 0==0 then none else out (gY (aU c1 r.fQ) r.Bj 1)) else
 bif r.kind==3 then out (pK r c1 c1.length) else out c1
def ig(r:Rule)(e:Elem):V:=match eP r e with
 |none=>.gW [.agg [.int 0,.row 0 true .nil],.bool false]
 |some x=>.gW [.dat (.elem x),.bool true]
theorem JC(r:Rule)(e:Elem):(ig r e).free=true:=by
 unfold ig; cases eP r e<;>rfl
def JG(r:Rule)(e:Elem):V:=.gW [.dat (.elem ((eP r e).getD ⟨0,[]⟩)),.bool (eP r e).isSome]
theorem Yz{Z:Nat->Prop}{h:Hp}(r:Rule)(e:Elem):T.sub Z h (JG r e).aI (ig r e).aI:=by
 unfold JG ig
 cases eP r e with
 |none =>
  show T.sub Z h (.gW [.agg [.int 0,.sl 0 false []],.bool false]) (.gW [.agg [.int 0,.sl 0 true []],.bool false])
  simp[T.sub,T.dP]
 |some x=>exact aF _
theorem aj.JG{f:FuncId}{r:Rule}{e:Elem}(S:aj Tryz.prog f [.dat (.rule r),.dat (.elem e)] (ig r e)):aj Tryz.prog f [.dat (.rule r),.dat (.elem e)] (JG r e) :=
 wC.shut S (fun _=>Yz r e) rfl
theorem EZ.get{c:List Int}(h:EZ c){i:Nat}(hi:i<c.length):0<=c.getD i 0/\c.getD i 0<=1048576:=by
 rw[show c.getD i 0=c[i] by simp[hi]]; exact h _ (List.getElem_mem hi)
theorem xQ{h:Hz}{j:Nat}{Z:Nat->Prop}{l:List Int}(hz:Z j)(q:h.get j=some (.row 3 0 (.ints l) [])):T.sub Z h.au (V.row 0 false (.ints l)).aI (V.own j).aI:=by
 show T.sub Z h.au (.sl 0 false (l.map T.int)) (.own j)
 simp only[T.sub]
 refine⟨trivial,hz,?_,by decide,3,?_⟩
 ·rw[dR]; intro t ht; obtain⟨x,_,rfl⟩:=List.mem_map.1 ht; rfl
 ·have:=aO q
  rw[this]; simp[OV.ay,Rw.aS,V.aS]
def okB(b:Int)(c:List Int):Prop:= ∀ x∈c,-b<=x/\x<=b
theorem okB.get{b:Int}{c:List Int}(h:okB b c)(hb:0<=b)(i:Nat): -b<=c.getD i 0/\c.getD i 0<=b:=by
 by_cases hi:i<c.length
 ·rw[show c.getD i 0=c[i] by simp[hi]]; exact h _ (List.getElem_mem hi)
 ·rw[show c.getD i 0=0 by simp[List.getD_eq_getElem?_getD,List.getElem?_eq_none (by omega:c.length<=i)]]; omega
theorem okB.add{b k:Int}{c:List Int}(h:okB b c)(hb:0<=b)(i d:Int)(hd: -k<=d/\d<=k):okB (b+k) (gY c i d):=by
 intro x hx
 have hk:0<=k:=by omega
 rcases List.mem_or_eq_of_mem_set hx with hx|rfl
 ·have:=h x hx; omega
 ·have:=h.get hb i.toNat; omega
theorem okB.dec{b:Int}{c:List Int}(h:okB b c)(hb:0<=b)(i:Int):okB (b+1) (aU c i):=by
 have:=h.add hb i (-1) (k:=1) ⟨by omega,by omega⟩
 rw[show aU c i=gY c i (-1) by simp only[aU,gY]; rfl]; exact this
theorem EZ.b{c:List Int}(h:EZ c):okB 1048576 c:=fun x hx=>by have:=h x hx; omega
theorem ak.xR{h:Hz}{j:Nat}{v:Int}{l:List Int}(q:h.get j=some (.row 3 0 (.ints l) [])):ak (.gW [.dat (.elem ⟨v,l⟩),.bool true]) (.gW [.agg [.int v,.own j],.bool true]) h:=⟨by
 show T.sub (fun _=>True) h.au (.gW [.agg [.int v,.sl 0 false (l.map T.int)],.bool true]) (.gW [.agg [.int v,.own j],.bool true])
 have:=xQ (Z:=fun _=>True) trivial q
 replace this:T.sub (fun _=>True) h.au (.sl 0 false (l.map T.int)) (.own j):=this
 simp only[T.sub] at this
 simp only[T.sub,T.dP]
 exact⟨⟨trivial,this,trivial⟩,trivial,trivial⟩⟩
theorem Bo{n:Nat}(h:0<n):(bif isZero (.int n) then some Rw.nil else LQ (n:Int).toNat (T.int 0))=some (.ints (List.replicate n 0)):=by
 cases n with
 |zero=>omega
 |succ k=>rfl
theorem vK{r:Rule}{c:List Int}{i:Nat}:pK r c (i+1)=gY (pK r c i) (r.response.getD i 0) (c.getD i 0):=by
 simp only[pK,List.range_succ,List.foldl_append,List.foldl_cons,List.foldl_nil]
theorem rG{r:Rule}{c:List Int}{i:Nat}:(pK r c i).length=c.length:=by
 induction i with
 |zero=>simp[pK]
 |succ i ih=>rw[vK]; simp[gY,ih]
theorem ZW{r:Rule}{c:List Int}{b:Int}(h:okB b c)(hb:0<=b)(i:Nat):okB (i*b) (pK r c i):=by
 induction i with
 |zero=>intro x hx; simp[pK] at hx; omega
 |succ i ih =>
  rw[vK]
  have h0:0<=(i:Int)*b:=Int.mul_nonneg (by omega) hb
  have:=ih.add h0 (r.response.getD i 0) (c.getD i 0) (k:=b) (h.get hb i)
  rw[show((i+1:Nat):Int)*b=i*b+b by rw[Int.natCast_add,Int.add_mul]; simp]; exact this
abbrev nN(l:List Int):OV:=.row 3 0 (.ints l) []
theorem S.YA(e:Elem)(he:e.counts.length<2^30)(n:Nat):aV Tryz.prog 27 (V.aS [.dat (.elem e)]) (Hz.au []) n (fun t hp=>t= .agg [.int e.value,.own n]/\hp=Hz.au [(n,some (nN e.counts))]):=by
 refine pO.of (nx:=0) Bd.uD (by simp) ⟨_,_,rfl,rfl⟩ rfl rfl ?_
 conv=>whnf
 refine .mk (by simp only[nG,nY,Rw.len]; omega) ?_
 conv=>whnf
 exact nP.one (c:=n) (j:=7) (o:=nN e.counts) (t:=.agg [.int e.value,.own n]) rfl rfl rfl nofun (.inr rfl) ⟨trivial,rfl,trivial⟩ (.eq rfl) ⟨rfl,rfl⟩
theorem S.GN(e:Elem)(he:e.counts.length<2^30):wC Tryz.prog 27 [fD e] (fun n=>.agg [.int e.value,.own n]) (some ⟨3,0,e.counts.map T.int⟩):=by
 refine⟨by exact V.jG [.dat (.elem e)] rfl,fun n=>⟨trivial,rfl,trivial⟩,fun ob h=>?_,fun ob h=>?_,fun n=>?_⟩
 ·cases h
  show T.dJ (e.counts.map T.int)=true
  rw[dR]; intro t ht; obtain⟨x,_,rfl⟩:=List.mem_map.1 ht; rfl
 ·cases h; exact show(0:Nat)≠fU by decide
 ·have:=S.YA e he n
  have e1:Hz.au [(n,some (nN e.counts))]=gZ no n (some ⟨3,0,e.counts.map T.int⟩):=by
   rw[bG]; simp[gZ,OV.ay,Rw.aS,V.aS]; rfl
  rw[e1] at this
  exact this
theorem OB{h:Hz}{n:Nat}{l:List Int}:gZ h.au n (some ⟨3,0,l.map T.int⟩)=Hz.au ((n,some (nN l))::h):=by
 rw[bG]; simp[gZ,OV.ay,Rw.aS,V.aS]
theorem lt1{x:Int}(h:0<=x):decide (x<1)=(x==0):=by
 rw[Bool.eq_iff_iff]; simp; omega
theorem ac2{l:List Int}{s:Int}:Ef l s=true↔s∈l:=by
 simp only[Ef,List.any_eq_true,beq_iff_eq]
 constructor
 ·rintro⟨x,h,rfl⟩; exact h
 ·intro h; exact⟨s,h,rfl⟩
theorem aa2{al c:List Int}(hc: ∀ i,0<=c.getD i 0):zW al c c.length=(decide (0<(al.length:Int))&&Bz c al):=by
 rw[Bool.eq_iff_iff,Bool.and_eq_true]
 simp only[zW,Bz,oO,Bool.and_eq_true,decide_eq_true_eq,Bool.not_eq_true',beq_eq_false_iff_ne,ne_eq]
 constructor
 ·rintro⟨i,h1,h2,h3,h4⟩
  exact⟨h3,i,h1,by have:=hc i; omega,h4⟩
 ·rintro⟨h3,i,h1,h2,h4⟩
  exact⟨i,h1,by omega,h3,h4⟩
theorem found_eq{ex c:List Int}(hc: ∀ i,0<=c.getD i 0)(hx:rE c.length ex):(!(wH ex c c.length))=(decide (0<(ex.length:Int))&& !(FH c ex)):=by
 have h:wH ex c c.length=(!(decide (0<(ex.length:Int)))||FH c ex):=by
  rw[wH]
  congr 1
  ·rw[Bool.eq_iff_iff]; simp
  ·rw[Bool.eq_iff_iff]
   simp only[FH,List.mem_range,Bool.and_eq_true,decide_eq_true_eq,Bool.not_eq_true',beq_eq_false_iff_ne,ne_eq,List.any_eq_true,ac2]
   constructor
   ·rintro⟨i,h1,h2,h3⟩
    exact⟨i,h3,by have:=hc i; simp only[Int.toNat_natCast]; omega⟩
   ·rintro⟨q,h1,h2⟩
    obtain⟨t1,t2⟩:=hx q h1
    have t3:q.toNat<c.length:=by omega
    have t4: ¬ c.getD q.toNat 0=0:=by omega
    exact⟨q.toNat,t3,t4,by rw[Int.toNat_of_nonneg t1]; exact h1⟩
 rw[h]; cases decide (0<(ex.length:Int))<;>cases FH c ex<;>rfl
theorem RU{r:Rule}{c:List Int}(hc: ∀ i,0<=c.getD i 0)(hx:rE c.length r.ex) :
  ((decide (0<(r.ex.length:Int))&& !(FH c r.ex))||(decide (0<(r.all.length:Int))&&Bz c r.all))= !(rH r c):=by
 rw[rH,Bool.not_and,Bool.not_not,aa2 hc,found_eq hc hx,Bool.or_comm]
theorem Wq{r:Rule}{e:Elem}(hc:EZ e.counts)(h1:(decide (0<=r.read)&&e.value !=r.read||e.counts.getD r.fr.toNat 0==0)=false)(i:Nat):0<=(aU e.counts r.fr).getD i 0:=by
 have h0: ∀ j,0<=e.counts.getD j 0:=fun j=>by
  by_cases hj:j<e.counts.length
  ·exact(hc.get hj).1
  ·rw[show e.counts.getD j 0=0 by simp[List.getD_eq_getElem?_getD,List.getElem?_eq_none (by omega:e.counts.length<=j)]]; omega
 have h2:e.counts.getD r.fr.toNat 0≠0:=by
  rw[Bool.or_eq_false_iff] at h1
  have:=h1.2
  simpa using this
 have h3:=h0 r.fr.toNat
 have h4:=h0 i
 rw[aU,List.getD_eq_getElem?_getD,List.getElem?_set]
 split
 ·split
  ·simp only[Option.getD_some]; omega
  ·simp
 ·rw[<- List.getD_eq_getElem?_getD]; exact h4
theorem aT{ρ:Nat->Nat}{nx pn c n:Nat}{h:Hz}{s:List Nat}{o:OV}(a:(Nat.blt c nx&&(!(Nat.blt c pn)||Nat.beq n c)&&pR n s&&(o.good nx&&o.Ig))=true)(b:(h.get n).map OV.ay=some o.ay):Nat.blt c nx=true/\(Nat.blt c pn=true->n=c)/\pR n s=true/\o.good nx=true /\
   ∃ o',h.get n=some o'/\o'.ay.ty=o.ay.ty/\o'.ay.k=o.ay.k/\bD (T.bU ρ o.ay.l) o'.ay.l:=by
 simp only[Bool.and_eq_true,Bool.or_eq_true,Bool.not_eq_true'] at a
 obtain⟨⟨⟨a1,a2⟩,a3⟩,a4,a5⟩:=a
 obtain⟨o',b1,b2⟩:=Option.map_eq_some_iff.1 b
 exact⟨a1,fun h=>a2.elim (fun q=>by rw[q] at h; cases h) fP,a3,a4,o',b1,by rw[b2],by rw[b2],by rw[OV.zX a5,b2]; exact .refl _⟩
theorem kX{ρ:Nat->Nat}{nx pn c n:Nat}{h:Hz}{s:List Nat}{o o':OV}(a:(Nat.blt c nx&&(!(Nat.blt c pn)||Nat.beq n c)&&pR n s)=true)(g:o.good nx=true)(b:h.get n=some o')(t:o'.ay.ty=o.ay.ty/\o'.ay.k=o.ay.k)(l:bD (T.bU ρ o.ay.l) o'.ay.l):Nat.blt c nx=true/\(Nat.blt c pn=true->n=c)/\pR n s=true/\o.good nx=true /\
   ∃ o',h.get n=some o'/\o'.ay.ty=o.ay.ty/\o'.ay.k=o.ay.k/\bD (T.bU ρ o.ay.l) o'.ay.l:=by
 simp only[Bool.and_eq_true,Bool.or_eq_true,Bool.not_eq_true'] at a
 obtain⟨⟨a1,a2⟩,a3⟩:=a
 exact⟨a1,fun h=>a2.elim (fun q=>by rw[q] at h; cases h) fP,a3,g,o',b,t.1,t.2,l⟩
theorem okF{ρ:Nat->Nat}{nx pn c n:Nat}{h:Hz}{s:List Nat}{o o':OV}(q1:Nat.blt c nx=true)(q2:Nat.blt c pn=true->n=c)(q3:pR n s=true)(q4:(o.good nx&&o.Ig)=true)(q5:h.get n=some o')
  (q6:o'.ay.ty=o.ay.ty/\o'.ay.k=o.ay.k) (q7:o.ay.l=o'.ay.l):Nat.blt c nx=true/\(Nat.blt c pn=true->n=c)/\pR n s=true/\o.good nx=true /\
   ∃ o',h.get n=some o'/\o'.ay.ty=o.ay.ty/\o'.ay.k=o.ay.k/\bD (T.bU ρ o.ay.l) o'.ay.l:=by
 rw[Bool.and_eq_true] at q4
 exact⟨q1,q2,q3,q4.1,o',q5,q6.1,q6.2,bD.of_eq ((OV.zX q4.2 ρ).trans q7)⟩
set_option maxHeartbeats 1000000 in
theorem S.BD(r:Rule)(e:Elem)(hr:yw r)(hp:sW e.counts.length r)(hc:EZ e.counts)(hl:e.counts.length<=6):aj Tryz.prog 87 [.dat (.rule r),.dat (.elem e)] (ig r e):=by
 obtain⟨f1,f2⟩:=hp.src
 obtain⟨d1,d2⟩:=hp.dst
 obtain⟨p1,p2⟩:=hp.Uz
 obtain⟨q1,q2⟩:=hp.UA
 have hfr:=hc.get (i:=r.fr.toNat) (by omega)
 refine aj.of Bd.BD (by simp) rfl (JC r e) ?_
 conv=>whnf
 repeat(refine VC.mk (by first|exact id|exact fun h=>⟨h,h⟩|(intro h; rw[h]; rfl)|(intro h; (repeat' apply And.intro)<;>first|exact h|omega|(simp only[Rw.nO]; omega)|(simp only[Rw.rng]; omega))) ?_; conv=>whnf)
 refine⟨fun h1=>?_,fun h1=>?_⟩
 ·conv=>whnf
  refine ak.eqv ?_
  rw[lt1 hfr.1] at h1
  rw[ig,eP,h1]; rfl
 rw[lt1 hfr.1] at h1
 conv=>whnf
 refine ah.heap (wC.frame (S.GN e (by omega)) _ _) ?_
 rintro t hp ⟨rfl,rfl⟩
 refine⟨.agg [.int e.value,.own 24],(24,some (nN e.counts))::_,rfl,OB,?_⟩
 have hl1:(aU e.counts r.fr).length=e.counts.length:=by simp[aU]
 conv=>whnf
 repeat(refine VC.mk (by first|(first|(simp only[Rw.rng]; omega)|(simp only[okI,aU] at *; omega))|exact fun h=>h|exact fun h=>⟨h,h⟩) ?_; conv=>whnf)
 have hex:=hr.ex
 have hal:=hr.all
 refine ah.Nr (fun _=>S.BR (aU e.counts r.fr) r.ex false false (by omega) (by omega) (by rw[hl1]; exact hp.exs)) (fun _=>And.intro (xQ trivial rfl) (And.intro (aF _) trivial)) rfl rfl ?_
 conv=>whnf
 repeat(refine VC.mk (by first|exact id|exact fun h=>⟨h,h⟩|(intro h; simp[h]; done)) ?_; conv=>whnf)
 refine ah.Nr (fun _=>S.uH (aU e.counts r.fr) r.all false false (by omega) (by omega)) (fun _=>And.intro (xQ trivial rfl) (And.intro (aF _) trivial)) rfl rfl ?_
 conv=>whnf
 repeat(refine VC.mk (by cases (r.kind==1)<;>cases (decide (0<(r.ex.length:Int))&& !FH (aU e.counts r.fr) r.ex)<;>simp) ?_; conv=>whnf)
 have hpos: ∀ i,0<=(aU e.counts r.fr).getD i 0:=Wq hc h1
 refine⟨fun h2=>?_,fun h2=>?_⟩
 ·replace h2:((r.kind==1)&&((decide (0<(r.ex.length:Int))&& !(FH (aU e.counts r.fr) r.ex))||(decide (0<(r.all.length:Int))&&Bz (aU e.counts r.fr) r.all)))=true:=h2
  rw[RU hpos (by rw[hl1]; exact hp.exs),Bool.and_eq_true] at h2
  conv=>whnf
  refine ak.eqv ?_
  rw[ig,eP,h1,h2.1,h2.2]; rfl
 replace h2:((r.kind==1)&&((decide (0<(r.ex.length:Int))&& !(FH (aU e.counts r.fr) r.ex))||(decide (0<(r.all.length:Int))&&Bz (aU e.counts r.fr) r.all)))=false:=h2
 rw[RU hpos (by rw[hl1]; exact hp.exs)] at h2
 conv=>whnf
 refine⟨fun h5=>?_,fun h5=>?_⟩
 ·replace h5:(r.kind==2)=true:=h5
  have hB:=hc.b.dec (by omega) r.fr
  have hB1:=hB.get (by omega) r.fQ.toNat
  have hB2:=hB.dec (by omega) r.fQ
  have hB3:=hB2.get (by omega) r.Bj.toNat
  have hB4:=hB2.add (by omega) r.Bj 1 (k:=1) ⟨by omega,by omega⟩
  have hB5:=hB4.get (by omega) r.to.toNat
  have h12:(r.kind==1)=false:=by rw[beq_iff_eq.1 h5]; rfl
  conv=>whnf
  repeat(refine VC.mk (by first|(simp only[Rw.rng,List.length_set]; omega)|(simp only[aU,gY] at *; omega)) ?_; conv=>whnf)
  refine⟨fun h6=>?_,fun h6=>?_⟩
  ·replace h6:decide ((aU e.counts r.fr).getD r.fQ.toNat 0<1)=true:=h6
   rw[lt1 (hpos _)] at h6
   conv=>whnf
   refine ak.eqv ?_
   rw[ig,eP,h1,h12,h5,h6]; rfl
  ·replace h6:decide ((aU e.counts r.fr).getD r.fQ.toNat 0<1)=false:=h6
   rw[lt1 (hpos _)] at h6
   have h13:(r.kind==3)=false:=by rw[beq_iff_eq.1 h5]; rfl
   conv=>whnf
   repeat(refine VC.mk (by first|(simp only[Rw.rng,List.length_set]; omega)|(simp only[okI,aU,gY] at *; omega)) ?_; conv=>whnf)
   refine Fork.mk (fun q=>absurd (q.symm.trans (h13)).symm Bool.false_ne_true) (fun _=>?_)
   conv=>whnf
   repeat(refine VC.mk (by simp only[okI,Rw.rng] at *; first|omega|(simp_all; done)|(simp_all; omega)) ?_; conv=>whnf)
   conv=>whnf
   repeat(refine VC.mk (by first|(simp only[Rw.rng,List.length_set]; omega)|(simp only[okI,aU,gY] at *; omega)) ?_; conv=>whnf)
   refine⟨fun h4=>?_,fun h4=>?_⟩
   ·replace h4:decide (r.write>=0)=true:=h4
    have hS:ig r e= .gW [.dat (.elem ⟨r.write,gY (gY (aU (aU e.counts r.fr) r.fQ) r.Bj 1) r.to 1⟩),.bool true]:=by rw[ig,eP,h1,h12,h5,h6,h4]; rfl
    conv=>whnf
    rw[hS]
    exact ak.xR rfl
   ·replace h4:decide (r.write>=0)=false:=h4
    have hS:ig r e= .gW [.dat (.elem ⟨e.value,gY (gY (aU (aU e.counts r.fr) r.fQ) r.Bj 1) r.to 1⟩),.bool true]:=by rw[ig,eP,h1,h12,h5,h6,h4]; rfl
    conv=>whnf
    rw[hS]
    exact ak.xR rfl
 ·replace h5:(r.kind==2)=false:=h5
  conv=>whnf
  refine⟨fun h6=>?_,fun h6=>?_⟩
  ·have h12:(r.kind==1)=false:=by rw[beq_iff_eq.1 h6]; rfl
   have hB:=hc.b.dec (by omega) r.fr
   obtain⟨rs1,rs2⟩:=hp.rsp (beq_iff_eq.1 h6)
   conv=>whnf
   have hm:=Bo (n:=(aU e.counts r.fr).length) (by omega)
   simp only[aU] at hm
   rw[hm]
   conv=>whnf
   refine .mk (by simp only[List.length_set]; omega) ?_
   conv=>whnf
   refine aB.nD 100 [2,4,6] (fun i:Nat=>[(8,.int i),(7,.own 75)]) (fun i=>[(0,.box 85 19 (.dat (.rule r))),(1,.box 54 3 (.dat (.elem e))),(2,.box 54 3 (.agg [.int 0,.row 0 true .nil])),(24,nN (aU e.counts r.fr)),(25,.box 54 3 (.agg [.int e.value,.own 24])),(75,nN (pK r (aU e.counts r.fr) i))]) (fun i=>i<=(aU e.counts r.fr).length) (fun i=>(aU e.counts r.fr).length-i) 0 [0,1,2,24,25,75] rfl (by decide) (fun _=>rfl) (Nat.zero_le _) ?_ ?_ ?_
   ·exact(sR rfl)
   ·exact⟨aT rfl rfl,aT rfl rfl,aT rfl rfl,aT rfl rfl,kX rfl rfl rfl ⟨rfl,rfl⟩ (bD.of_eq rfl),aT rfl rfl,trivial⟩
   conv=>whnf
   refine⟨(sR rfl),rfl,?_⟩
   rintro i hi
   have hn6:(i:Int)*1048577<=6*1048577:=Int.mul_le_mul_of_nonneg_right (by omega) (by omega)
   have hn0:0<=(i:Int)*1048577:=Int.mul_nonneg (by omega) (by omega)
   have hRB:=ZW hB (by omega) (r:=r) i
   have hRl:(pK r (aU e.counts r.fr) i).length=e.counts.length:=by rw[rG,hl1]
   conv=>whnf
   refine⟨fun g1=>?_,fun g1=>?_⟩
   ·have hi':i<(aU e.counts r.fr).length:=by
     have:(i:Int)<((pK r (aU e.counts r.fr) i).length:Int):=of_decide_eq_true g1
     omega
    have hir:i<r.response.length:=by omega
    obtain⟨q3,q4⟩:0<=r.response.getD i 0/\r.response.getD i 0<e.counts.length:=by
     rw[show r.response.getD i 0=r.response[i] by simp[hir]]; exact rs2 _ (List.getElem_mem hir)
    have hR1:=hRB.get hn0 (r.response.getD i 0).toNat
    have hR2:=hB.get (by omega) i
    conv=>whnf
    repeat(refine VC.mk (by first|(first|(simp only[Rw.rng,rG]; omega)|(simp only[okI,aU,Int.toNat_natCast] at *; omega))|(simp only[Rw.rng] at *; first|omega|(simp_all; done)|(simp_all; omega))) ?_; conv=>whnf)
    refine⟨i+1,[0,1,2,24,25,75],by omega,by omega,(sR rfl),(sR rfl),aT rfl rfl,aT rfl rfl,aT rfl rfl,aT rfl rfl,kX rfl rfl rfl ⟨rfl,rfl⟩ (bD.of_eq rfl),okF rfl nofun rfl rfl rfl ?_ ?_,trivial⟩
    ·exact⟨rfl,rfl⟩
    ·rw[vK]; rfl
   have hi':i=(aU e.counts r.fr).length:=by
    have: ¬ ((i:Int)<((pK r (aU e.counts r.fr) i).length:Int)):=of_decide_eq_false g1
    omega
   subst hi'
   have hR1:=hRB.get hn0 r.to.toNat
   conv=>whnf
   repeat(refine VC.mk (by first|(simp only[Rw.rng,rG]; omega)|(simp only[okI,aU,Int.toNat_natCast] at *; omega)) ?_; conv=>whnf)
   refine⟨fun h4=>?_,fun h4=>?_⟩
   ·replace h4:decide (r.write>=0)=true:=h4
    have hS:ig r e= .gW [.dat (.elem ⟨r.write,gY (pK r (aU e.counts r.fr) (aU e.counts r.fr).length) r.to 1⟩),.bool true]:=by rw[ig,eP,h1,h12,h5,h6,h4]; rfl
    conv=>whnf
    rw[hS]
    exact ak.xR rfl
   ·replace h4:decide (r.write>=0)=false:=h4
    have hS:ig r e= .gW [.dat (.elem ⟨e.value,gY (pK r (aU e.counts r.fr) (aU e.counts r.fr).length) r.to 1⟩),.bool true]:=by rw[ig,eP,h1,h12,h5,h6,h4]; rfl
    conv=>whnf
    rw[hS]
    exact ak.xR rfl
  ·replace h6:(r.kind==3)=false:=h6
   have hB:=hc.b.dec (by omega) r.fr
   have hB1:=hB.get (by omega) r.to.toNat
   have hgen:eP r e=some ⟨bif decide (r.write>=0) then r.write else e.value,gY (aU e.counts r.fr) r.to 1⟩:=by
    rw[eP,h1,h5,h6]
    cases h12:(r.kind==1) with
    |false=>rfl
    |true=>rw[h12,Bool.true_and] at h2; rw[h2]; rfl
   conv=>whnf
   repeat(refine VC.mk (by first|(simp only[Rw.rng,List.length_set]; omega)|(simp only[okI,aU,gY] at *; omega)) ?_; conv=>whnf)
   refine⟨fun h4=>?_,fun h4=>?_⟩
   ·replace h4:decide (r.write>=0)=true:=h4
    have hS:ig r e= .gW [.dat (.elem ⟨r.write,gY (aU e.counts r.fr) r.to 1⟩),.bool true]:=by rw[ig,hgen,h4]; rfl
    conv=>whnf
    rw[hS]
    exact ak.xR rfl
   ·replace h4:decide (r.write>=0)=false:=h4
    have hS:ig r e= .gW [.dat (.elem ⟨e.value,gY (aU e.counts r.fr) r.to 1⟩),.bool true]:=by rw[ig,hgen,h4]; rfl
    conv=>whnf
    rw[hS]
    exact ak.xR rfl
theorem bz{c:Bool}{a b:Int}(ha:c=true->a≠0)(h:(bif c then a else b)=0):c=false/\b=0:=by
 cases c with
 |true=>exact absurd h (ha rfl)
 |false=>exact⟨rfl,h⟩
theorem nz{a:Int}(h:(a !=0)=true):a≠0:=by simpa using h
theorem wR: ∀ {l:List Int},bF l=0-> ∀ x∈l,x=0:=by
 intro l
 induction l with
 |nil=>intro _ x h; cases h
 |cons a r ih =>
  intro h x hx
  simp only[bF] at h
  split at h
  ·rename_i h0
   rcases List.mem_cons.1 hx with rfl|hx
   ·exact h0
   ·exact ih h x hx
  ·rename_i h0; exact absurd h h0
structure OD(p:aC):Prop where
 pos:0<p.states.length
 states:p.states.length<=6
 values:p.values.length<=3
 OY:p.rules.length<=8
 init:jv p.initial p.states.length=0
 start:p.initial≠[]
 rule: ∀ i,i<p.rules.length->iC p i=0
theorem kU{p:aC}(h:dw p=0):OD p:=by
 unfold dw at h
 obtain⟨_,h⟩:=bz (fun _=>by decide) h
 obtain⟨_,h⟩:=bz (fun _=>by decide) h
 obtain⟨h0,h⟩:=bz (fun _=>by decide) h
 obtain⟨h1,h⟩:=bz (fun _=>by decide) h
 obtain⟨_,h⟩:=bz nz h
 obtain⟨_,h⟩:=bz (fun _=>by decide) h
 obtain⟨_,h⟩:=bz (fun _=>by decide) h
 obtain⟨h2,h⟩:=bz nz h
 obtain⟨h3,h⟩:=bz nz h
 have h2':zk p=0:=by simpa using h2
 have h3':Eu p=0:=by simpa using h3
 have g:=wR h2'
 simp only[wS,Bool.or_eq_false_iff,decide_eq_false_iff_not] at h1
 refine⟨?_,by omega,by omega,by omega,g _ (by simp),?_,fun i hi=>?_⟩
 ·have:(p.states.length:Int)≠0:=by simpa using h0
  omega
 ·intro e
  have:=g (fG ((p.initial.length:Int)==0) 1) (by simp)
  rw[e] at this; exact absurd this (by decide)
 ·exact wR h3' _ (List.mem_map.2 ⟨i,by simpa using hi,rfl⟩)
theorem vG{x:Int}{n:Nat}(h:pY x n=false):0<=x/\x<n:=by
 simp only[pY,Bool.or_eq_false_iff,decide_eq_false_iff_not] at h; omega
theorem Ew{x:Int}{n:Nat}(h:dH x n=0):0<=x/\x<n:=by
 refine vG ?_
 unfold dH fG at h
 cases hb:pY x n with
 |false=>rfl
 |true=>rw[hb] at h; exact absurd h (by decide)
theorem ND{l:List Int}{n:Nat}(h:jv l n=0):rE n l:=by
 unfold jv at h
 obtain⟨h,_⟩:=bz (fun _=>by decide) h
 rw[List.any_eq_false] at h
 exact fun q hq=>vG (by simpa using h q hq)
theorem RX{n:Nat}: ∀ {l:List Int},qG l n=0->rE n l:=by
 intro l
 induction l with
 |nil=>intro _ q h; cases h
 |cons x r ih =>
  intro h q hq
  simp only[qG] at h
  split at h
  ·rename_i h0
   rcases List.mem_cons.1 hq with rfl|hq
   ·exact Ew h0
   ·exact ih h q hq
  ·rename_i h0; exact absurd h h0
theorem ML{k:Int}(h:uq k 1=true):k=1\/k=2\/k=3:=by
 unfold uq at h
 cases h1:(k==1) with
 |true=>exact .inl (beq_iff_eq.1 h1)
 |false =>
  cases h2:(k==2) with
  |true=>exact .inr (.inl (beq_iff_eq.1 h2))
  |false =>
   cases h3:(k==3) with
   |true=>exact .inr (.inr (beq_iff_eq.1 h3))
   |false=>rw[h1,h2,h3] at h; cases hb:(k==4||k==5)<;>rw[hb] at h<;>cases h
structure agM(n:Nat)(p:aC)(r:Rule):Prop where
 place:sW n r
 kind:r.kind=1\/r.kind=2\/r.kind=3
 aiv:rE n r.all
 ex1:r.kind≠1->r.ex=[]/\r.all=[]
 rd:pY r.read p.values.length=false\/r.read= -1
 wr:pY r.write p.values.length=false\/r.write= -1
theorem tJ{p:aC}{v:Int}(h:jQ p v=0):pY v p.values.length=false\/v= -1:=by
 unfold jQ fG at h
 have h': ¬ (v< -1\/v>=(p.values.length:Int)):=by
  intro q
  have:(decide (v< -1)||decide (v>=(p.values.length:Int)))=true:=by simpa using q
  rw[this] at h; exact absurd h (by decide)
 by_cases e:v= -1
 ·exact .inr e
 ·left
  simp only[pY,Bool.or_eq_false_iff,decide_eq_false_iff_not]; omega
theorem aei{p:aC}{i:Nat}(hv:OD p)(ht:p.topology=1)(hi:i<p.rules.length):agM p.states.length p (p.rules.getD i default):=by
 have h:=hv.rule i hi
 have hpos:=hv.pos
 simp only[iC,qw] at h
 generalize (p.rules.getD i default)=r at h ⊢
 obtain⟨_,h⟩:=bz (fun _=>by decide) h
 obtain⟨hb,h⟩:=bz (fun _=>by decide) h
 obtain⟨he,h⟩:=bz nz h
 rw[Jd,Bool.or_eq_false_iff] at he
 rw[ht,Bool.or_eq_false_iff] at hb
 have hk:=ML (show uq r.kind 1=true by simpa using hb.1)
 have hu:kL r 1=false:=by rw[wE (by omega)]; exact hb.2
 have hun:=NG hu
 have hpf:r.kind≠2->r.kind≠5->r.fQ=0/\r.Bj=0:=by
  intro k1 k2
  simp only[kL,OE,Bool.or_eq_false_iff] at hu
  have h3:=hu.2.2.1
  simp only[beq_eq_false_iff_ne.2 k1,beq_eq_false_iff_ne.2 k2,Bool.not_false,Bool.true_and,Bool.or_eq_false_iff] at h3
  exact⟨U8 h3.1,U8 h3.2⟩
 have h00:(0:Int)<=0/\(0:Int)<p.states.length:=⟨by omega,by omega⟩
 have pn:rE p.states.length []:=fun q hq=>by cases hq
 rcases hk with e|e|e
 ·rw[e] at h
  have g:=wR h
  have⟨a,b⟩:=hpf (by omega) (by omega)
  exact⟨⟨vG he.1,vG he.2,by rw[a]; exact h00,by rw[b]; exact h00,fun q=>by omega,ND (g (jv r.ex p.states.length) (by simp))⟩,.inl e,ND (g (jv r.all p.states.length) (by simp)),fun q=>absurd e q,tJ (g (jQ p r.read) (by simp)),tJ (g (jQ p r.write) (by simp))⟩
 ·rw[e] at h
  have g:=wR h
  obtain⟨_,u1,u2,_⟩:=hun.1 (by omega)
  exact⟨⟨vG he.1,vG he.2,Ew (g (dH r.fQ p.states.length) (by simp)),Ew (g (dH r.Bj p.states.length) (by simp)),fun q=>by omega,by rw[u1]; exact pn⟩,.inr (.inl e),by rw[u2]; exact pn,fun _=>⟨u1,u2⟩,tJ (g (jQ p r.read) (by simp)),tJ (g (jQ p r.write) (by simp))⟩
 ·rw[e] at h
  have g:=wR h
  have⟨a,b⟩:=hpf (by omega) (by omega)
  obtain⟨_,u1,u2,_⟩:=hun.1 (by omega)
  have hr:=g (FI r.response p.states.length) (by simp)
  unfold FI at hr
  obtain⟨r1,r2⟩:=bz (fun _=>by decide) hr
  exact⟨⟨vG he.1,vG he.2,by rw[a]; exact h00,by rw[b]; exact h00,fun _=>⟨by have q9:(r.response.length:Int)=p.states.length:=(by simpa using r1); omega,RX r2⟩,by rw[u1]; exact pn⟩,.inr (.inr e),by rw[u2]; exact pn,fun _=>⟨u1,u2⟩,tJ (g (jQ p r.read) (by simp)),tJ (g (jQ p r.write) (by simp))⟩
theorem MN{p:aC}(h:tK p=true):p.topology=1:=by
 simp only[tK,Bool.and_eq_true,beq_iff_eq] at h; exact h.1.1.1
structure aiw(p:aC)(e:Elem):Prop where
 valid:OD p
 plain:tK p=true
 len:e.counts.length=p.states.length
 nums:EZ e.counts
 val:0<=e.value/\e.value<max 1 (p.values.length:Int)
theorem gu{p:aC}(h:Oz p=0):dw p=0/\tK p=true:=by
 unfold Oz at h
 obtain⟨h1,h⟩:=bz nz h
 obtain⟨h2,_⟩:=bz (fun _=>by decide) h
 refine⟨by simpa using h1,?_⟩
 simp only[oJ] at h2
 cases hp:tK p with
 |true=>rfl
 |false=>rw[hp] at h2; simp at h2
theorem Wy{x:Int}:IK x=true↔0<=x/\x<=1048576:=by simp[IK]
theorem aeP{p:aC}{e:Elem}(h:OA p e=false):e.counts.length=p.states.length/\EZ e.counts/\0<=e.value/\e.value<max 1 (p.values.length:Int):=by
 simp only[OA,Bool.or_eq_false_iff,decide_eq_false_iff_not] at h
 obtain⟨⟨⟨h1,h2⟩,h3⟩,h4⟩:=h
 refine⟨?_,fun x hx=>?_,by omega,by omega⟩
 ·have:(e.counts.length:Int)=p.states.length:=by simpa using h1
  omega
 ·have:e.counts.all IK=true:=by simpa using h2
  exact Wy.1 (List.all_eq_true.1 this x hx)
theorem iT{α:Type}{c:Bool}{a b:Option α}{x:α}(h:(bif c then a else b)=some x):a=some x\/b=some x:=by
 cases c with
 |true=>exact .inl h
 |false=>exact .inr h
theorem GR{c:List Int}{i d:Int}:(gY c i d).length=c.length:=by simp[gY]
theorem kH{c:List Int}{i:Int}:(aU c i).length=c.length:=by simp[aU]
theorem yM{r:Rule}{e x:Elem}(h:eP r e=some x):x.counts.length=e.counts.length:=by
 simp only[eP] at h
 have out: ∀ {c:List Int} {v:Int},c.length=e.counts.length->some (⟨v,gY c r.to 1⟩:Elem)=some x->x.counts.length=e.counts.length:=by
  intro c v hc h; cases h; rw[GR,hc]
 rcases iT h with h|h
 ·cases h
 rcases iT h with h|h
 ·rcases iT h with h|h
  ·cases h
  ·exact out kH h
 rcases iT h with h|h
 ·rcases iT h with h|h
  ·cases h
  ·exact out (by rw[GR,kH,kH]) h
 rcases iT h with h|h
 ·exact out (by rw[rG,kH]) h
 ·exact out kH h
end Go.Proofs.YtajmbgljnaljiaaGreatDoor
namespace Go.Proofs.YtajmbgljnaljiaaGreatDoor
open Go.Ab Go.Proofs
set_option maxRecDepth 100000
theorem ah.insert{h:Hz}{i n:Nat}{l:List Elem}{e:Elem}{K:V->Hz->Prop}{KW:Nat->V->Hz->Prop}(hi:h.get i=some (eH l))(hn:h.get n=none)(hl:l.length<2^30)(hs:eF l)(he:e.counts.length<2^30)
  (h1:tH l e=true->K (.own i) ((i,some (eH l))::h)) (h2:tH l e=false->K (.own n) ((n,some (eH (nR l e)))::(i,none)::h)):ah Tryz.prog false none 53 [.own i,.dat (.elem e)] h n K KW:=by
 refine ah.Z5 (ts:=[.own 0,.dat (.elem e)]) (S.wU l e 1 (by decide) hl hs he) ?_ rfl rfl rfl hi hn ?_
 ·show [T.own i,T.ren _ (fD e)]=[T.own i,fD e]
  rfl
 ·rintro t hp (⟨a,rfl,rfl⟩|⟨a,rfl,rfl⟩)
  ·exact .inl ⟨.own i,eH l,rfl,rfl,rfl,h1 a⟩
  ·exact .inr ⟨.own n,eH (nR l e),rfl,rfl,rfl,h2 a⟩
theorem ak.aek{h:Hz}{k:Nat}{c:Int}:ak (.gW [.row 3 false (.elems []),.int c]) (.gW [.row k true .nil,.int c]) h:=⟨by
 show T.sub (fun _=>True) h.au (.gW [.sl 3 false [],.int c]) (.gW [.sl k true [],.int c])
 simp[T.sub,T.dP]⟩
structure iF(q:Prop'):Prop where
 start:q.start.length<2^30
 bad:q.bad.length<2^30
 adjacent:q.adjacent.length<2^30
 goal:q.goal.length<2^30
 cnt: ∀ i,(q.bad.getD i default).states.length<2^30
def zl(c:Cnt):Bool:=((c.states.length:Int)==0||decide (c.least<1))||decide (c.least>3)
def O9(n:Int)(c:Cnt):Int:=bF [jv c.states n,fG (zl c) 1]
def xW(l:List Cnt)(n:Int):Int:=bF (l.map (O9 n))
def IX(p:aC)(l:List Int):Int:=bif (l.length:Int)==0 then 0 else bif p.topology==1 then 6 else bif (l.length:Int) !=2 then 1 else bF [dH (l.getD 0 0) p.states.length,dH (l.getD 1 0) p.states.length]
def vH(q:Prop'):Bool:=((q.kind==1)&&decide ((q.goal.length:Int)>0))||(!(q.kind==1)&&(decide ((q.bad.length:Int)>0)||decide ((q.adjacent.length:Int)>0)))
def jr(p:aC)(q:Prop'):Int :=
 let n:Int:=p.states.length
 bif dw p !=0 then dw p else bif !(validName q.name) then 2 else bif !(q.kind==1)&&q.kind !=2 then 1 else bif vH q then 1 else
 bif jv q.start n !=0 then jv q.start n else bif q.start.any (fun x=> !(Ef p.initial x)) then 5 else
 bif !(q.kind==1) then bF [jv q.goal n,fG ((q.goal.length:Int)==0) 1] else
 bF [fG (((q.bad.length:Int)==0)&&((q.adjacent.length:Int)==0)) 1,fG (decide ((q.bad.length:Int)>3)) 4,xW q.bad n,IX p q.adjacent]
theorem S.mO(l:List Cnt)(n:Int)(f:Bool)(hl:l.length<2^30)(hs: ∀ i,(l.getD i default).states.length<2^30):aj Tryz.prog 104 [.row 3 f (.cnts l),.int n] (.int (xW l n)):=by
 refine aj.of Bd.mO (by simp) rfl rfl ?_
 conv=>whnf
 refine aB.same [1,8,9] (fun i:Nat=>[(10,.int i)]) (fun i=>i<=l.length/\xW l n=bF ((l.drop i).map (O9 n))) (fun i=>l.length-i) 0 rfl (by decide) rfl (fun _=>rfl) ⟨by omega,by simp[xW]⟩ ⟨⟨_,rfl,rfl⟩,trivial⟩ ?_
 conv=>whnf
 refine⟨rfl,?_⟩
 rintro i ⟨hi,hall⟩
 conv=>whnf
 refine⟨fun h3=>?_,fun h3=>?_⟩
 ·have hi':i<l.length:=by simpa using h3
  rw[dU default hi',List.map_cons] at hall
  simp only[bF] at hall
  have hc:=hs i
  conv=>whnf
  refine .mk (by simp only[Rw.rng] at *; omega) ?_
  conv=>whnf
  refine ah.pure (S.eG (l.getD i default).states n false (by omega)) rfl ?_
  conv=>whnf
  repeat(refine VC.mk (by first|exact id|(intro h; rw[h]; rfl)) ?_; conv=>whnf)
  refine ah.pure (S.dh (zl (l.getD i default)) 1) rfl ?_
  conv=>whnf
  refine ah.pure (S.bW [jv (l.getD i default).states n,fG (zl (l.getD i default)) 1] true (show 2<2^40 by decide)) rfl ?_
  conv=>whnf
  refine⟨fun h4=>?_,fun h4=>?_⟩
  ·conv=>whnf
   refine ak.int ?_
   have h4':O9 n (l.getD i default)≠0:=nz h4
   rw[hall,if_neg h4']; rfl
  ·conv=>whnf
   refine .mk (by simp only[okI] at *; omega) ?_
   conv=>whnf
   have h4':O9 n (l.getD i default)=0:=Ko h4
   rw[if_pos h4'] at hall
   refine⟨i+1,⟨by omega,hall⟩,by omega,⟨⟨_,rfl,rfl⟩,trivial⟩,?_,rfl⟩
   repeat' (first|exact trivial|exact⟨_,rfl,rfl⟩|constructor)
 ·have hi':l.length<=i:=by simpa using h3
  rw[List.drop_eq_nil_of_le hi'] at hall
  conv=>whnf
  exact ak.int (by rw[hall]; rfl)
theorem S.kQ(p:aC)(l:List Int)(f:Bool)(_hl:l.length<2^30):aj Tryz.prog 105 [.dat (.iE p),.row 0 f (.ints l)] (.int (IX p l)):=by
 refine aj.of Bd.kQ (by simp) rfl rfl ?_
 conv=>whnf
 refine⟨fun h1=>?_,fun h1=>?_⟩
 ·conv=>whnf
  exact ak.int (by rw[IX,h1]; rfl)
 conv=>whnf
 refine⟨fun h2=>?_,fun h2=>?_⟩
 ·conv=>whnf
  exact ak.int (by rw[IX,h1,h2]; rfl)
 conv=>whnf
 refine⟨fun h3=>?_,fun h3=>?_⟩
 ·conv=>whnf
  exact ak.int (by rw[IX,h1,h2,h3]; rfl)
 have h4:l.length=2:=by
  have:(l.length:Int)=2:=by simpa using h3
  omega
 conv=>whnf
 repeat(refine VC.mk (by simp only[Rw.rng] at *; omega) ?_; conv=>whnf)
 refine ah.pure (S.dB (l.getD 0 0) p.states.length) rfl ?_
 conv=>whnf
 refine ah.pure (S.dB (l.getD 1 0) p.states.length) rfl ?_
 conv=>whnf
 refine ah.pure (S.bW [dH (l.getD 0 0) p.states.length,dH (l.getD 1 0) p.states.length] true (show 2<2^40 by decide)) rfl ?_
 conv=>whnf
 exact ak.int (by rw[IX,h1,h2,h3]; rfl)
theorem S.eu(p:aC)(q:Prop')(hp:dL p)(hq:iF q):aj Tryz.prog 68 [.dat (.iE p),.dat (.prop q)] (.int (jr p q)):=by
 have g1:=hp.states; have g5:=hp.initial
 have q1:=hq.start; have q2:=hq.bad; have q3:=hq.adjacent; have q4:=hq.goal
 refine aj.of Bd.eu (by simp) rfl rfl ?_
 conv=>whnf
 refine ah.pure (S.jh p hp) rfl ?_
 conv=>whnf
 refine⟨fun h1=>?_,fun h1=>?_⟩
 ·conv=>whnf
  exact ak.int (by rw[jr,h1]; rfl)
 conv=>whnf
 refine ah.pure (S.gV q.name) rfl ?_
 conv=>whnf
 refine⟨fun h2=>?_,fun h2=>?_⟩
 ·conv=>whnf
  exact ak.int (by rw[jr,h1,h2]; rfl)
 conv=>whnf
 repeat(refine VC.mk id ?_; conv=>whnf)
 refine⟨fun h3=>?_,fun h3=>?_⟩
 ·conv=>whnf
  exact ak.int (by rw[jr,h1,h2,h3]; rfl)
 conv=>whnf
 repeat(refine VC.mk id ?_; conv=>whnf)
 refine⟨fun h4=>?_,fun h4=>?_⟩
 ·conv=>whnf
  refine Fork.mk (fun _=>?_) (fun q=>absurd (q.symm.trans (h4)) Bool.false_ne_true)
  conv=>whnf
  exact ak.int (by rw[jr,h1,h2,h3,show vH q=true by rw[vH]; erw [h4]; rfl]; rfl)
 conv=>whnf
 repeat(refine VC.mk (by first|exact id|(intro h; simp_all; done)) ?_; conv=>whnf)
 refine⟨fun h5=>?_,fun h5=>?_⟩
 ·conv=>whnf
  exact ak.int (by rw[jr,h1,h2,h3,show vH q=true by rw[vH]; erw [h5]; simp]; rfl)
 have h45:vH q=false:=by rw[vH]; erw [h4,h5]; rfl
 conv=>whnf
 refine ah.pure (S.eG q.start p.states.length false (by omega)) rfl ?_
 conv=>whnf
 refine⟨fun h6=>?_,fun h6=>?_⟩
 ·conv=>whnf
  exact ak.int (by rw[jr,h1,h2,h3,h45,h6]; rfl)
 conv=>whnf
 refine aB.same [2,3,6,7,65,66] (fun i:Nat=>[(67,.int i)]) (fun i=>i<=q.start.length/\(q.start.take i).any (fun x=> !(Ef p.initial x))=false) (fun i=>q.start.length-i) 0 rfl (by decide) rfl (fun _=>rfl) ⟨by omega,by simp⟩ ⟨⟨_,rfl,rfl⟩,trivial⟩ ?_
 conv=>whnf
 refine⟨rfl,?_⟩
 rintro i ⟨hi,hall⟩
 conv=>whnf
 refine⟨fun h7=>?_,fun h7=>?_⟩
 ·have hi':i<q.start.length:=by simpa using h7
  conv=>whnf
  refine .mk (by simp only[Rw.rng] at *; omega) ?_
  conv=>whnf
  refine ah.pure (S.slices_Contains_int p.initial (q.start.getD i 0) false (by omega)) rfl ?_
  conv=>whnf
  refine⟨fun h8=>?_,fun h8=>?_⟩
  ·conv=>whnf
   exact ak.int (by rw[jr,h1,h2,h3,h45,h6,iU (d:=0) hi' h8]; rfl)
  ·conv=>whnf
   refine .mk (by simp only[okI] at *; omega) ?_
   conv=>whnf
   refine⟨i+1,⟨by omega,?_⟩,by omega,⟨⟨_,rfl,rfl⟩,trivial⟩,?_,rfl⟩
   ·rw[kN (d:=0) hi' hall]; exact h8
   ·repeat' (first|exact trivial|exact⟨_,rfl,rfl⟩|constructor)
 have hi':q.start.length<=i:=by simpa using h7
 rw[List.take_of_length_le hi'] at hall
 conv=>whnf
 refine⟨fun h8=>?_,fun h8=>?_⟩
 ·conv=>whnf
  refine ah.pure (S.eG q.goal p.states.length false (by omega)) rfl ?_
  conv=>whnf
  refine ah.pure (S.dh ((q.goal.length:Int)==0) 1) rfl ?_
  conv=>whnf
  refine ah.pure (S.bW [jv q.goal p.states.length,fG ((q.goal.length:Int)==0) 1] true (show 2<2^40 by decide)) rfl ?_
  conv=>whnf
  exact ak.int (by rw[jr,h1,h2,h3,h45,h6,hall,h8]; rfl)
 conv=>whnf
 repeat(refine VC.mk id ?_; conv=>whnf)
 refine ah.pure (S.dh (((q.bad.length:Int)==0)&&((q.adjacent.length:Int)==0)) 1) rfl ?_
 conv=>whnf
 refine ah.pure (S.dh (decide ((q.bad.length:Int)>3)) 4) rfl ?_
 conv=>whnf
 refine ah.pure (S.mO q.bad p.states.length false q2 hq.cnt) rfl ?_
 conv=>whnf
 refine ah.pure (S.kQ p q.adjacent false q3) rfl ?_
 conv=>whnf
 refine ah.pure (S.bW [fG (((q.bad.length:Int)==0)&&((q.adjacent.length:Int)==0)) 1,fG (decide ((q.bad.length:Int)>3)) 4,xW q.bad p.states.length,IX p q.adjacent] true (show 4<2^40 by decide)) rfl ?_
 conv=>whnf
 exact ak.int (by rw[jr,h1,h2,h3,h45,h6,hall,h8]; rfl)
theorem S.FK(l:List Int)(s:Int)(f:Bool)(hl:l.length<2^40):aj Tryz.prog 114 [.row 0 f (.ints l),.int s] (.bool (Ef l s)):=by
 refine aj.of Bd.FK (by simp) rfl rfl ?_
 conv=>whnf
 refine aB.same [0,1] (fun i:Nat=>[(5,.int i)]) (fun i=>i<=l.length/\(l.take i).any (fun x=>s==x)=false) (fun i=>l.length-i) 0 rfl (by decide) rfl (fun _=>rfl) ⟨by omega,by simp⟩ ⟨⟨_,rfl,rfl⟩,trivial⟩ ?_
 conv=>whnf
 refine⟨rfl,?_⟩
 rintro i ⟨hi,hall⟩
 conv=>whnf
 refine⟨fun h3=>?_,fun h3=>?_⟩
 ·have hi':i<l.length:=by simpa using h3
  conv=>whnf
  refine .mk (by simp only[Rw.rng] at *; omega) ?_
  conv=>whnf
  refine⟨fun h4=>?_,fun h4=>?_⟩
  ·have h4':(s==l.getD i 0)=true:=by rw[show(s==l.getD i 0)=(l.getD i 0==s) from Bool.beq_comm]; exact h4
   conv=>whnf
   exact ak.bool (iU (d:=0) hi' h4')
  ·have h4':(s==l.getD i 0)=false:=by rw[show(s==l.getD i 0)=(l.getD i 0==s) from Bool.beq_comm]; exact h4
   conv=>whnf
   refine .mk (by simp only[okI] at *; omega) ?_
   conv=>whnf
   refine⟨i+1,⟨by omega,?_⟩,by omega,⟨⟨_,rfl,rfl⟩,trivial⟩,?_,rfl⟩
   ·rw[kN (d:=0) hi' hall]; exact h4'
   ·repeat' (first|exact trivial|exact⟨_,rfl,rfl⟩|constructor)
 ·have hi':l.length<=i:=by simpa using h3
  rw[List.take_of_length_le hi'] at hall
  conv=>whnf
  exact ak.bool hall
theorem ac3{p:aC}{l:List Int}(h1:(decide ((l.length:Int)>0)&&(p.topology==1))=false)(h2:((l.length:Int) !=0&&(l.length:Int) !=2)=false):IX p l=bif l.any (fun x=>pY x p.states.length) then 5 else 0:=by
 unfold IX
 rcases l with _|⟨a,_|⟨b,_|⟨c,r⟩⟩⟩
 ·rfl
 ·simp at h2
 ·have ht:(p.topology==1)=false:=by simpa using h1
  rw[ht]
  simp only[List.length_cons,List.length_nil,List.getD_cons_zero,List.getD_cons_succ,List.any_cons,List.any_nil,Bool.or_false,dH]
  cases pY a p.states.length<;>cases pY b p.states.length<;>rfl
 ·simp at h2; omega
theorem U9{c:Cnt}:zl c=((c.states.length:Int)==0|| !(iM c.least 1 3)):=by
 rw[zl,oW,Bool.or_assoc]
theorem S.gX(p:aC)(q:Prop')(hp:dL p)(hq:iF q):aj Tryz.prog 81 [.dat (.iE p),.dat (.prop q)] (.int (jr p q)):=by
 have g1:=hp.states; have g5:=hp.initial
 have q1:=hq.start; have q2:=hq.bad; have q3:=hq.adjacent; have q4:=hq.goal
 refine aj.of Bd.gX (by simp) rfl rfl ?_
 conv=>whnf
 refine ah.pure (S.oZ p hp) rfl ?_
 conv=>whnf
 refine⟨fun h1=>?_,fun h1=>?_⟩
 ·conv=>whnf
  exact ak.int (by rw[jr,h1]; rfl)
 conv=>whnf
 refine ah.pure (S.jC q.name) rfl ?_
 conv=>whnf
 refine⟨fun h2=>?_,fun h2=>?_⟩
 ·conv=>whnf
  exact ak.int (by rw[jr,h1,h2]; rfl)
 conv=>whnf
 repeat(refine VC.mk id ?_; conv=>whnf)
 refine⟨fun h3=>?_,fun h3=>?_⟩
 ·replace h3:(!(q.kind==1)&&q.kind !=2)=true:=h3
  conv=>whnf
  exact ak.int (by rw[jr,h1,h2,h3]; rfl)
 replace h3:(!(q.kind==1)&&q.kind !=2)=false:=h3
 have k2:(q.kind==2)= !(q.kind==1):=by
  cases e:(q.kind==1) with
  |true=>rw[beq_iff_eq.1 e]; rfl
  |false=>rw[e] at h3; simpa using h3
 conv=>whnf
 repeat(refine VC.mk (by first|exact id|(intro h; rw[h]; rfl)|(intro h; simp_all; done)) ?_; conv=>whnf)
 refine⟨fun h4=>?_,fun h4=>?_⟩
 ·rw[k2] at h4
  conv=>whnf
  exact ak.int (by rw[jr,h1,h2,h3,show vH q=true from h4]; rfl)
 rw[k2] at h4
 replace h4:vH q=false:=h4
 conv=>whnf
 refine ah.pure (S.iY q.start p.states.length false (by omega) (by omega)) rfl ?_
 conv=>whnf
 refine⟨fun h6=>?_,fun h6=>?_⟩
 ·conv=>whnf
  exact ak.int (by rw[jr,h1,h2,h3,h4,h6]; rfl)
 conv=>whnf
 refine aB.same [2,3,6] (fun i:Nat=>[(8,.int i)]) (fun i=>i<=q.start.length/\(q.start.take i).any (fun x=> !(Ef p.initial x))=false) (fun i=>q.start.length-i) 0 rfl (by decide) rfl (fun _=>rfl) ⟨by omega,by simp⟩ ⟨⟨_,rfl,rfl⟩,trivial⟩ ?_
 conv=>whnf
 refine⟨rfl,?_⟩
 rintro i ⟨hi,hall⟩
 conv=>whnf
 refine⟨fun h7=>?_,fun h7=>?_⟩
 ·have hi':i<q.start.length:=by simpa using h7
  conv=>whnf
  refine .mk (by simp only[Rw.rng] at *; omega) ?_
  conv=>whnf
  refine ah.pure (S.FK p.initial (q.start.getD i 0) false (by omega)) rfl ?_
  conv=>whnf
  refine⟨fun h8=>?_,fun h8=>?_⟩
  ·conv=>whnf
   exact ak.int (by rw[jr,h1,h2,h3,h4,h6,iU (d:=0) hi' h8]; rfl)
  ·conv=>whnf
   refine .mk (by simp only[okI] at *; omega) ?_
   conv=>whnf
   refine⟨i+1,⟨by omega,?_⟩,by omega,⟨⟨_,rfl,rfl⟩,trivial⟩,?_,rfl⟩
   ·rw[kN (d:=0) hi' hall]; exact h8
   ·repeat' (first|exact trivial|exact⟨_,rfl,rfl⟩|constructor)
 have hi':q.start.length<=i:=by simpa using h7
 rw[List.take_of_length_le hi'] at hall
 clear h7 hi'
 conv=>whnf
 refine⟨fun h8=>?_,fun h8=>?_⟩
 ·have h8':(!(q.kind==1))=true:=by rw[<- k2]; exact h8
  have hS:jr p q=bF [jv q.goal p.states.length,fG ((q.goal.length:Int)==0) 1]:=by rw[jr,h1,h2,h3,h4,h6,hall,h8']; rfl
  rw[hS]
  conv=>whnf
  refine ah.pure (S.iY q.goal p.states.length false (by omega) (by omega)) rfl ?_
  conv=>whnf
  refine⟨fun h9=>?_,fun h9=>?_⟩
  ·conv=>whnf
   exact ak.int (fN (nz h9))
  rw[show jv q.goal p.states.length=0 from Ko h9,f0]
  conv=>whnf
  refine⟨fun h10=>?_,fun h10=>?_⟩
  ·conv=>whnf
   exact ak.int (by rw[h10]; rfl)
  ·conv=>whnf
   exact ak.int (by rw[h10]; rfl)
 have h8':(!(q.kind==1))=false:=by rw[<- k2]; exact h8
 have hS:jr p q=bF [fG (((q.bad.length:Int)==0)&&((q.adjacent.length:Int)==0)) 1,fG (decide ((q.bad.length:Int)>3)) 4,xW q.bad p.states.length,IX p q.adjacent]:=by rw[jr,h1,h2,h3,h4,h6,hall,h8']; rfl
 rw[hS]
 conv=>whnf
 repeat(refine VC.mk id ?_; conv=>whnf)
 refine⟨fun h9=>?_,fun h9=>?_⟩
 ·conv=>whnf
  exact ak.int (by rw[h9]; rfl)
 rw[h9,WY]
 conv=>whnf
 refine⟨fun h10=>?_,fun h10=>?_⟩
 ·conv=>whnf
  exact ak.int (by rw[show decide ((q.bad.length:Int)>3)=true from h10]; rfl)
 rw[show decide ((q.bad.length:Int)>3)=false from h10,WY]
 conv=>whnf
 refine aB.same [2,3,6] (fun i:Nat=>[(10,.int i)]) (fun i=>i<=q.bad.length/\xW q.bad p.states.length=bF ((q.bad.drop i).map (O9 p.states.length))) (fun i=>q.bad.length-i) 0 rfl (by decide) rfl (fun _=>rfl) ⟨by omega,by simp[xW]⟩ ⟨⟨_,rfl,rfl⟩,trivial⟩ ?_
 conv=>whnf
 refine⟨rfl,?_⟩
 rintro j ⟨hj,hcnt⟩
 conv=>whnf
 refine⟨fun h11=>?_,fun h11=>?_⟩
 ·have hj':j<q.bad.length:=by simpa using h11
  rw[dU default hj',List.map_cons] at hcnt
  simp only[bF] at hcnt
  have hc:=hq.cnt j
  conv=>whnf
  refine .mk (by simp only[Rw.rng] at *; omega) ?_
  conv=>whnf
  refine ah.pure (S.iY (q.bad.getD j default).states p.states.length false (by omega) (by omega)) rfl ?_
  conv=>whnf
  refine⟨fun h12=>?_,fun h12=>?_⟩
  ·conv=>whnf
   have e1:O9 p.states.length (q.bad.getD j default)=jv (q.bad.getD j default).states p.states.length:=fN (nz h12)
   rw[e1,if_neg (nz h12)] at hcnt
   exact ak.int (by rw[hcnt,fN (nz h12)])
  have aa3:jv (q.bad.getD j default).states p.states.length=0:=Ko h12
  have e1:O9 p.states.length (q.bad.getD j default)=bF [fG (zl (q.bad.getD j default)) 1]:=by rw[O9,aa3,f0]
  rw[e1,U9] at hcnt
  conv=>whnf
  repeat(refine VC.mk (by first|exact id|(intro h; (repeat' apply And.intro)<;>first|exact h|omega|(simp only[Rw.nO]; omega)|(simp only[Rw.rng]; omega))|(simp only[Rw.rng] at *; omega)) ?_; conv=>whnf)
  refine ah.dM (fun _=>S.bg (q.bad.getD j default).least 1 3) rfl ?_
  conv=>whnf
  repeat(refine VC.mk (by first|exact id|(intro h; rw[h]; rfl)) ?_; conv=>whnf)
  refine⟨fun h13=>?_,fun h13=>?_⟩
  ·replace h13:(((q.bad.getD j default).states.length:Int)==0|| !(iM (q.bad.getD j default).least 1 3))=true:=h13
   rw[h13] at hcnt
   conv=>whnf
   exact ak.int (by rw[hcnt]; rfl)
  ·replace h13:(((q.bad.getD j default).states.length:Int)==0|| !(iM (q.bad.getD j default).least 1 3))=false:=h13
   rw[h13] at hcnt
   conv=>whnf
   refine .mk (by simp only[okI] at *; omega) ?_
   conv=>whnf
   refine⟨j+1,⟨by omega,hcnt⟩,by omega,⟨⟨_,rfl,rfl⟩,trivial⟩,?_,rfl⟩
   repeat' (first|exact trivial|exact⟨_,rfl,rfl⟩|constructor)
 have hj':q.bad.length<=j:=by simpa using h11
 rw[List.drop_eq_nil_of_le hj'] at hcnt
 rw[hcnt,show bF (List.map (O9 p.states.length) [])=0 from rfl,f0]
 conv=>whnf
 repeat(refine VC.mk id ?_; conv=>whnf)
 refine⟨fun h12=>?_,fun h12=>?_⟩
 ·replace h12:(decide ((q.adjacent.length:Int)>0)&&(p.topology==1))=true:=h12
  conv=>whnf
  rw[Bool.and_eq_true] at h12
  have:((q.adjacent.length:Int)==0)=false:=beq_eq_false_iff_ne.2 (by have:=of_decide_eq_true h12.1; omega)
  exact ak.int (by rw[IX,this,h12.2]; rfl)
 replace h12:(decide ((q.adjacent.length:Int)>0)&&(p.topology==1))=false:=h12
 conv=>whnf
 repeat(refine VC.mk id ?_; conv=>whnf)
 refine⟨fun h13=>?_,fun h13=>?_⟩
 ·replace h13:((q.adjacent.length:Int) !=0&&(q.adjacent.length:Int) !=2)=true:=h13
  conv=>whnf
  rw[Bool.and_eq_true] at h13
  have e0:((q.adjacent.length:Int)==0)=false:=by simpa using h13.1
  have e1:(p.topology==1)=false:=by
   rw[Bool.and_eq_false_iff] at h12
   rcases h12 with h12|h12
   ·have:=of_decide_eq_false h12
    have:(q.adjacent.length:Int)≠0:=by simpa using e0
    omega
   ·exact h12
  exact ak.int (by rw[IX,e0,e1,h13.2]; rfl)
 replace h13:((q.adjacent.length:Int) !=0&&(q.adjacent.length:Int) !=2)=false:=h13
 rw[ac3 h12 h13]
 conv=>whnf
 refine aB.same [2,3,6] (fun i:Nat=>[(12,.int i)]) (fun i=>i<=q.adjacent.length/\(q.adjacent.take i).any (fun x=>pY x p.states.length)=false) (fun i=>q.adjacent.length-i) 0 rfl (by decide) rfl (fun _=>rfl) ⟨by omega,by simp⟩ ⟨⟨_,rfl,rfl⟩,trivial⟩ ?_
 conv=>whnf
 refine⟨rfl,?_⟩
 rintro k ⟨hk,afb⟩
 conv=>whnf
 refine⟨fun h14=>?_,fun h14=>?_⟩
 ·have hk':k<q.adjacent.length:=by simpa using h14
  conv=>whnf
  repeat(refine VC.mk (by simp only[okI,Rw.rng] at *; omega) ?_; conv=>whnf)
  refine ah.pure (S.bg (q.adjacent.getD k 0) 0 (p.states.length-1)) rfl ?_
  conv=>whnf
  refine⟨fun h15=>?_,fun h15=>?_⟩
  ·replace h15:(!(iM (q.adjacent.getD k 0) 0 (p.states.length-1)))=true:=h15
   rw[wV] at h15
   conv=>whnf
   exact ak.int (by rw[iU (d:=0) hk' h15]; rfl)
  ·replace h15:(!(iM (q.adjacent.getD k 0) 0 (p.states.length-1)))=false:=h15
   rw[wV] at h15
   conv=>whnf
   refine .mk (by simp only[okI] at *; omega) ?_
   conv=>whnf
   refine⟨k+1,⟨by omega,?_⟩,by omega,⟨⟨_,rfl,rfl⟩,trivial⟩,?_,rfl⟩
   ·rw[kN (d:=0) hk' afb]; exact h15
   ·repeat' (first|exact trivial|exact⟨_,rfl,rfl⟩|constructor)
 have hk':q.adjacent.length<=k:=by simpa using h14
 rw[List.take_of_length_le hk'] at afb
 conv=>whnf
 exact ak.int (by rw[afb]; rfl)
theorem ak.agN{h:Hz}{j:Nat}{l:List Int}(q:h.get j=some (nN l)):ak (.row 0 false (.ints l)) (.own j) h:=⟨xQ trivial q⟩
theorem ak.yB{h:Hz}{k k':Nat}{r:Rw}(e:r.len=0):ak (.row k false r) (.row k' true .nil) h:=⟨by
 have:r.aS=[]:=List.eq_nil_of_length_eq_zero (by rw[Rw.dW]; exact e)
 show T.sub (fun _=>True) h.au (.sl k false r.aS) (.sl k' true [])
 rw[this]; simp[T.sub]⟩
theorem S.NH(l:List Int)(f:Bool)(hl:l.length<2^30):aj Tryz.prog 92 [.row 0 f (.ints l)] (.row 0 false (.ints l)):=by
 refine aj.of Bd.jY (by simp) rfl rfl ?_
 conv=>whnf
 refine ZV.mk (fun hz=>?_) ?_
 ·conv=>whnf
  refine Fork.mk (fun _=>?_) (fun q=>absurd (q.symm.trans ((rfl:true=true))) Bool.false_ne_true)
  conv=>whnf
  exact ak.yB hz
 ·conv=>whnf
  refine Fork.mk (fun q=>absurd (q.symm.trans ((rfl:false=false))).symm Bool.false_ne_true) (fun _=>?_)
  conv=>whnf
  refine .mk (by simp only[nG,nY,Rw.len]; omega) ?_
  conv=>whnf
  repeat(refine VC.mk (by simp only[nG,nY,Rw.len]; omega) ?_; conv=>whnf)
  exact ak.agN rfl
theorem S.o7(l:List Int)(f:Bool)(hl:l.length<2^30):aj Tryz.prog 146 [.row 0 f (.ints l)] (.row 0 false (.ints l)):=by
 refine aj.of Bd.o7 (by simp) rfl rfl ?_
 conv=>whnf
 refine .mk (by simp only[nG,nY,Rw.len]; omega) ?_
 conv=>whnf
 exact ak.agN rfl
def mY(p:aC)(q:Prop'):List Int:=bif decide ((q.start.length:Int)>0) then q.start else p.initial
theorem zY{p:aC}{q:Prop'}(h:jr p q=0):dw p=0:=by
 unfold jr at h
 obtain⟨h1,_⟩:=bz nz h
 exact Ko h1
theorem S.mD(p:aC)(q:Prop')(hp:dL p)(hq:iF q)(hv:jr p q=0):aj Tryz.prog 75 [.dat (.iE p),.dat (.prop q)] (.gW [.row 0 false (.ints (mY p q)),.int 0]):=by
 have g5:=hp.initial; have q1:=hq.start
 refine aj.of Bd.mD (by simp) rfl rfl ?_
 conv=>whnf
 refine ah.pure (S.eu p q hp hq) rfl ?_
 conv=>whnf
 refine Fork.mk (fun q=>absurd (q.symm.trans ((by simp[hv]))).symm Bool.false_ne_true) (fun _=>?_)
 conv=>whnf
 refine⟨fun h2=>?_,fun h2=>?_⟩
 ·conv=>whnf
  refine ah.pure (S.NH q.start false q1) rfl ?_
  conv=>whnf
  exact ak.eqv (by rw[mY,show decide ((q.start.length:Int)>0)=true from h2]; rfl)
 ·conv=>whnf
  refine ah.pure (S.NH p.initial false g5) rfl ?_
  conv=>whnf
  exact ak.eqv (by rw[mY,show decide ((q.start.length:Int)>0)=false from h2]; rfl)
theorem S.mP(p:aC)(q:Prop')(hp:dL p)(hq:iF q):aj Tryz.prog 117 [.dat (.iE p),.dat (.prop q)] (.row 0 false (.ints (mY p q))):=by
 have g5:=hp.initial; have q1:=hq.start
 refine aj.of Bd.mP (by simp) rfl rfl ?_
 conv=>whnf
 refine⟨fun h2=>?_,fun h2=>?_⟩
 ·conv=>whnf
  refine ah.pure (S.o7 q.start false q1) rfl ?_
  conv=>whnf
  exact ak.eqv (by rw[mY,show decide ((q.start.length:Int)>0)=true from h2]; rfl)
 ·conv=>whnf
  refine ah.pure (S.o7 p.initial false g5) rfl ?_
  conv=>whnf
  exact ak.eqv (by rw[mY,show decide ((q.start.length:Int)>0)=false from h2]; rfl)
theorem S.wL(p:aC)(q:Prop')(hp:dL p)(hq:iF q)(hv:jr p q=0):aj Tryz.prog 83 [.dat (.iE p),.dat (.prop q)] (.gW [.row 0 false (.ints (mY p q)),.int 0]):=by
 refine aj.of Bd.wL (by simp) rfl rfl ?_
 conv=>whnf
 refine ah.pure (S.gX p q hp hq) rfl ?_
 conv=>whnf
 refine Fork.mk (fun q=>absurd (q.symm.trans ((by simp[hv]))).symm Bool.false_ne_true) (fun _=>?_)
 conv=>whnf
 refine ah.pure (S.mP p q hp hq) rfl ?_
 conv=>whnf
 exact ak.eqv rfl
theorem MS{p:aC}{q:Prop'}(hp:dL p)(hq:iF q):(mY p q).length<2^30:=by
 unfold mY
 cases decide ((q.start.length:Int)>0)
 ·exact hp.initial
 ·exact hq.start
end Go.Proofs.YtajmbgljnaljiaaGreatDoor
