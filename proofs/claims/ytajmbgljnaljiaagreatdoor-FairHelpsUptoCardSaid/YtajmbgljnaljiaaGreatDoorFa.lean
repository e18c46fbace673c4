/-
 A part of the proof. No condition.
-/
import Derived.Test.YtajmbgljnaljiaaGreatDoorRb
import Derived.Test.YtajmbgljnaljiaaGreatDoorLg
import Derived.Test.YtajmbgljnaljiaaGreatDoorKa
namespace Go.Proofs.YtajmbgljnaljiaaGreatDoor
open Go.Ab Go.Proofs
set_option maxRecDepth 100000
def FP(s:Int):List Int->Nat->Int
 |[],_=> -1
 |x::r,i=>bif s==x then(i:Int) else FP s r (i+1)
theorem aaW{s:Int}{l:List Int}:decide (0<=FP s l 0)=l.any fun x=>s==x:=by
 have: ∀ {l:List Int} {i:Nat},0<=FP s l i↔(l.any fun x=>s==x)=true:=by
  intro l
  induction l with
  |nil=>intro i; simp[FP]
  |cons x r ih =>
   intro i
   rw[List.any_cons,Bool.or_eq_true,<- ih (i:=i+1)]
   show(0:Int)<=(bif s==x then(i:Int) else FP s r (i+1))↔_
   generalize (s==x)=b
   cases b<;>simp
 rw[Bool.eq_iff_iff,decide_eq_true_eq]; exact this
theorem S.slices_Index_int(l:List Int)(s:Int)(f:Bool)(hl:l.length<2^40):aj Tryz.prog 108 [.row 0 f (.ints l),.int s] (.int (FP s l 0)):=by
 refine aj.of Bd.nD (by simp) rfl rfl ?_
 conv=>whnf
 refine aB.same [0,1,6,7] (fun i:Nat=>[(8,.int i)]) (fun i=>i<=l.length/\FP s l 0=FP s (l.drop i) i) (fun i=>l.length-i) 0 rfl (by decide) rfl (fun _=>rfl) ⟨by omega,by simp⟩ ⟨⟨_,rfl,rfl⟩,trivial⟩ ?_
 conv=>whnf
 refine⟨rfl,?_⟩
 rintro i ⟨hi,hall⟩
 conv=>whnf
 refine⟨fun h3=>?_,fun h3=>?_⟩
 ·have hi':i<l.length:=by simpa using h3
  rw[dU 0 hi'] at hall
  simp only[FP] at hall
  conv=>whnf
  refine .mk (by simp only[Rw.rng] at *; first|omega|(simp_all; done)|(simp_all; omega)) ?_
  conv=>whnf
  refine⟨fun h4=>?_,fun h4=>?_⟩
  ·conv=>whnf
   refine ak.int ?_
   have h4':(s==l.getD i 0)=true:=h4
   rw[hall,h4']; rfl
  ·conv=>whnf
   refine .mk (by simp only[okI] at *; first|omega|(simp_all; done)|(simp_all; omega)) ?_
   conv=>whnf
   refine⟨i+1,⟨by omega,?_⟩,by omega,⟨⟨_,rfl,rfl⟩,trivial⟩,?_,rfl⟩
   ·have h4':(s==l.getD i 0)=false:=h4
    rw[hall,h4']; rfl
   ·repeat' (first|exact trivial|exact⟨_,rfl,rfl⟩|constructor)
 ·conv=>whnf
  refine ak.int ?_
  have hi':l.length<=i:=by simpa using h3
  rw[hall,List.drop_eq_nil_of_le hi']; rfl
def Ei(l:List Int)(s:Int):Bool:=l.any fun x=>s==x
theorem S.slices_Contains_int(l:List Int)(s:Int)(f:Bool)(hl:l.length<2^40):aj Tryz.prog 74 [.row 0 f (.ints l),.int s] (.bool (Ei l s)):=by
 refine aj.of Bd.kU (by simp) rfl rfl ?_
 conv=>whnf
 refine ah.pure (S.slices_Index_int l s f hl) rfl ?_
 conv=>whnf
 exact ak.bool aaW.symm
theorem S.Ku(l:List Int)(s:Int)(f:Bool)(hl:l.length<2^40):aj Tryz.prog 147 [.row 0 f (.ints l),.int s] (.bool (Ei l s)):=by
 refine aj.of Bd.Ku (by simp) rfl rfl ?_
 conv=>whnf
 refine aB.same [0,1] (fun i:Nat=>[(5,.int i)]) (fun i=>i<=l.length/\(l.take i).any (fun x=>s==x)=false) (fun i=>l.length-i) 0 rfl (by decide) rfl (fun _=>rfl) ⟨by omega,by simp⟩ ⟨⟨_,rfl,rfl⟩,trivial⟩ ?_
 conv=>whnf
 refine⟨rfl,?_⟩
 rintro i ⟨hi,hall⟩
 conv=>whnf
 refine⟨fun h3=>?_,fun h3=>?_⟩
 ·have hi':i<l.length:=by simpa using h3
  conv=>whnf
  refine .mk (by simp only[Rw.rng] at *; first|omega|(simp_all; done)|(simp_all; omega)) ?_
  conv=>whnf
  refine⟨fun h4=>?_,fun h4=>?_⟩
  ·have h4':(s==l.getD i 0)=true:=by rw[show(s==l.getD i 0)=(l.getD i 0==s) from Bool.beq_comm]; exact h4
   conv=>whnf
   exact ak.bool (iV (d:=0) hi' h4')
  ·have h4':(s==l.getD i 0)=false:=by rw[show(s==l.getD i 0)=(l.getD i 0==s) from Bool.beq_comm]; exact h4
   conv=>whnf
   refine .mk (by simp only[okI] at *; first|omega|(simp_all; done)|(simp_all; omega)) ?_
   conv=>whnf
   refine⟨i+1,⟨by omega,?_⟩,by omega,⟨⟨_,rfl,rfl⟩,trivial⟩,?_,rfl⟩
   ·rw[kP (d:=0) hi' hall]; exact h4'
   ·repeat' (first|exact trivial|exact⟨_,rfl,rfl⟩|constructor)
 ·have hi':l.length<=i:=by simpa using h3
  rw[List.take_of_length_le hi'] at hall
  conv=>whnf
  exact ak.bool hall
def FQ(c l:List Int):Bool:=l.any fun q=>decide (c.getD q.toNat 0>0)
def rE(n:Nat)(l:List Int):Prop:= ∀ q∈l,0<=q/\q<n
theorem S.BR(c l:List Int)(f g:Bool)(_hc:c.length<2^40)(hl:l.length<2^40)(hp:rE c.length l):aj Tryz.prog 119 [.row 0 f (.ints c),.row 0 g (.ints l)] (.bool (FQ c l)):=by
 refine aj.of Bd.BR (by simp) rfl rfl ?_
 conv=>whnf
 refine aB.same [0,1] (fun i:Nat=>[(5,.int i)]) (fun i=>i<=l.length/\(l.take i).any (fun q=>decide (c.getD q.toNat 0>0))=false) (fun i=>l.length-i) 0 rfl (by decide) rfl (fun _=>rfl) ⟨by omega,by simp⟩ ⟨⟨_,rfl,rfl⟩,trivial⟩ ?_
 conv=>whnf
 refine⟨rfl,?_⟩
 rintro i ⟨hi,hall⟩
 conv=>whnf
 refine⟨fun h3=>?_,fun h3=>?_⟩
 ·have hi':i<l.length:=by simpa using h3
  have hq:0<=l.getD i 0/\l.getD i 0<c.length:=by
   rw[show l.getD i 0=l[i] by simp[hi']]; exact hp _ (List.getElem_mem hi')
  conv=>whnf
  repeat(refine VC.mk (by simp only[Rw.rng] at *; first|omega|(simp_all; done)|(simp_all; omega)) ?_; conv=>whnf)
  refine⟨fun h4=>?_,fun h4=>?_⟩
  ·conv=>whnf
   exact ak.bool (iV (d:=0) hi' h4)
  ·conv=>whnf
   refine .mk (by simp only[okI] at *; first|omega|(simp_all; done)|(simp_all; omega)) ?_
   conv=>whnf
   refine⟨i+1,⟨by omega,?_⟩,by omega,⟨⟨_,rfl,rfl⟩,trivial⟩,?_,rfl⟩
   ·rw[kP (d:=0) hi' hall]; exact h4
   ·repeat' (first|exact trivial|exact⟨_,rfl,rfl⟩|constructor)
 ·have hi':l.length<=i:=by simpa using h3
  rw[List.take_of_length_le hi'] at hall
  conv=>whnf
  exact ak.bool hall
def Bv(c l:List Int):Bool:=(List.range c.length).any fun i=>decide (c.getD i 0>0)&& !(Ei l i)
theorem S.uI(c l:List Int)(f g:Bool)(hc:c.length<2^40)(hl:l.length<2^40):aj Tryz.prog 120 [.row 0 f (.ints c),.row 0 g (.ints l)] (.bool (Bv c l)):=by
 refine aj.of Bd.uI (by simp) rfl rfl ?_
 conv=>whnf
 refine aB.same [0,1] (fun i:Nat=>[(5,.int i)]) (fun i=>i<=c.length/\(List.range i).any (fun i=>decide (c.getD i 0>0)&& !(Ei l i))=false) (fun i=>c.length-i) 0 rfl (by decide) rfl (fun _=>rfl) ⟨by omega,by simp⟩ ⟨⟨_,rfl,rfl⟩,trivial⟩ ?_
 conv=>whnf
 refine⟨rfl,?_⟩
 rintro i ⟨hi,hall⟩
 conv=>whnf
 refine⟨fun h3=>?_,fun h3=>?_⟩
 ·have hi':i<c.length:=by simpa using h3
  conv=>whnf
  repeat(refine VC.mk (by first|exact fun h=>⟨h,h⟩|(simp only[Rw.rng] at *; first|omega|(simp_all; done)|(simp_all; omega))) ?_; conv=>whnf)
  refine ah.dL (fun _=>S.Ku l i g hl) rfl ?_
  conv=>whnf
  repeat(refine VC.mk id ?_; conv=>whnf)
  refine⟨fun h4=>?_,fun h4=>?_⟩
  ·conv=>whnf
   exact ak.bool (oN.2 ⟨i,hi',h4⟩)
  ·conv=>whnf
   refine .mk (by simp only[okI] at *; first|omega|(simp_all; done)|(simp_all; omega)) ?_
   conv=>whnf
   refine⟨i+1,⟨by omega,?_⟩,by omega,⟨⟨_,rfl,rfl⟩,trivial⟩,?_,rfl⟩
   ·rw[List.range_succ,List.any_append,hall]
    simp only[List.any_cons,List.any_nil,Bool.or_false,Bool.false_or]; exact h4
   ·repeat' (first|exact trivial|exact⟨_,rfl,rfl⟩|constructor)
 ·have hi':c.length<=i:=by simpa using h3
  have e:i=c.length:=Nat.le_antisymm hi hi'
  subst e
  conv=>whnf
  exact ak.bool hall
def wG(ex c:List Int)(i:Nat):Bool:=((ex.length:Int)==0)||(List.range i).any fun j=> !(c.getD j 0==0)&&Ei ex j
def zS(al c:List Int)(i:Nat):Bool:=(List.range i).any fun j=> !(c.getD j 0==0)&&(decide ((al.length:Int)>0)&& !(Ei al j))
def rG(r:Rule)(c:List Int):Bool:= !(zS r.all c c.length)&&wG r.ex c c.length
theorem JF{ex c:List Int}{i:Nat}:wG ex c (i+1)=(wG ex c i||(!(c.getD i 0==0)&&Ei ex i)):=by
 simp only[wG,List.range_succ,List.any_append,List.any_cons,List.any_nil,Bool.or_false,Bool.or_assoc]
theorem JE{al c:List Int}{i:Nat}:zS al c (i+1)=(zS al c i||(!(c.getD i 0==0)&&(decide ((al.length:Int)>0)&& !(Ei al i)))):=by
 simp only[zS,List.range_succ,List.any_append,List.any_cons,List.any_nil,Bool.or_false]
theorem QA{al c:List Int}{i:Nat}(hi:i<c.length)(h0:(c.getD i 0==0)=false)(h:(decide ((al.length:Int)>0)&& !(Ei al i))=true):zS al c c.length=true :=
 oN.2 ⟨i,hi,by rw[h0,h]; rfl⟩
structure sZ(n:Nat)(r:Rule):Prop where
 src:0<=r.fr/\r.fr<n
 dst:0<=r.to/\r.to<n
 XR:0<=r.fP/\r.fP<n
 XT:0<=r.Bh/\r.Bh<n
 rsp:r.kind=3->r.response.length=n/\rE n r.response
 exs:rE n r.ex
def E8(c:List Int):Prop:= ∀ x∈c,0<=x/\x<=1048576
def ig(c:List Int)(i d:Int):List Int:=c.set i.toNat (c.getD i.toNat 0+d)
def aU(c:List Int)(i:Int):List Int:=c.set i.toNat (c.getD i.toNat 0-1)
def pI(r:Rule)(c:List Int)(i:Nat):List Int:=(List.range i).foldl (fun a j=>ig a (r.response.getD j 0) (c.getD j 0)) (List.replicate c.length 0)
def eP(r:Rule)(e:Elem):Option Elem :=
 let c1:=aU e.counts r.fr
 let out (c:List Int):Option Elem:=some ⟨bif decide (r.write>=0) then r.write else e.value,ig c r.to 1⟩
 bif (decide (0<=r.read)&&e.value !=r.read||e.counts.getD r.fr.toNat 0==0) then none else
 bif r.kind==1 then(bif !(rG r c1) then none else out c1) else
 bif r.kind==2 then(bif c1.getD r.fP.toNat 0==0 then none else out (ig (aU c1 r.fP) r.Bh 1)) else
 bif r.kind==3 then out (pI r c1 c1.length) else out c1
def iw(r:Rule)(e:Elem):V:=match eP r e with
 |none=>.fZ [.agg [.int 0,.row 0 true .nil],.bool false]
 |some x=>.fZ [.dat (.elem x),.bool true]
theorem JG(r:Rule)(e:Elem):(iw r e).free=true:=by
 unfold iw; cases eP r e<;>rfl
def JK(r:Rule)(e:Elem):V:=.fZ [.dat (.elem ((eP r e).getD ⟨0,[]⟩)),.bool (eP r e).isSome]
theorem Yz{Z:Nat->Prop}{h:Hp}(r:Rule)(e:Elem):T.sub Z h (JK r e).aI (iw r e).aI:=by
 unfold JK iw
 cases eP r e with
 |none =>
  show T.sub Z h (.fZ [.agg [.int 0,.sl 0 false []],.bool false]) (.fZ [.agg [.int 0,.sl 0 true []],.bool false])
  simp[T.sub,T.dP]
 |some x=>exact aG _
theorem aj.JK{f:FuncId}{r:Rule}{e:Elem}(S:aj Tryz.prog f [.dat (.rule r),.dat (.elem e)] (iw r e)):aj Tryz.prog f [.dat (.rule r),.dat (.elem e)] (JK r e) :=
 wC.shut S (fun _=>Yz r e) rfl
theorem E8.get{c:List Int}(h:E8 c){i:Nat}(hi:i<c.length):0<=c.getD i 0/\c.getD i 0<=1048576:=by
 rw[show c.getD i 0=c[i] by simp[hi]]; exact h _ (List.getElem_mem hi)
theorem D5{h:Hz}{j:Nat}{Z:Nat->Prop}{l:List Int}(hz:Z j)(q:h.get j=some (.row 3 0 (.ints l) [])):T.sub Z h.au (V.row 0 false (.ints l)).aI (V.own j).aI:=by
 show T.sub Z h.au (.sl 0 false (l.map T.int)) (.own j)
 simp only[T.sub]
 refine⟨trivial,hz,?_,by decide,3,?_⟩
 ·rw[dR]; intro t ht; obtain⟨x,_,rfl⟩:=List.mem_map.1 ht; rfl
 ·have:=aO q
  rw[this]; simp[OV.ay,Rw.aS,V.aS]
def okB(b:Int)(c:List Int):Prop:= ∀ x∈c,-b<=x/\x<=b
theorem okB.get{b:Int}{c:List Int}(h:okB b c)(hb:0<=b)(i:Nat): -b<=c.getD i 0/\c.getD i 0<=b:=by
 by_cases hi:i<c.length
 ·rw[show c.getD i 0=c[i] by simp[hi]]; exact h _ (List.getElem_mem hi)
 ·rw[show c.getD i 0=0 by simp[List.getD_eq_getElem?_getD,List.getElem?_eq_none (by omega:c.length<=i)]]; omega
theorem okB.add{b k:Int}{c:List Int}(h:okB b c)(hb:0<=b)(i d:Int)(hd: -k<=d/\d<=k):okB (b+k) (ig c i d):=by
 intro x hx
 have hk:0<=k:=by omega
 rcases List.mem_or_eq_of_mem_set hx with hx|rfl
 ·have:=h x hx; omega
 ·have:=h.get hb i.toNat; omega
theorem okB.dec{b:Int}{c:List Int}(h:okB b c)(hb:0<=b)(i:Int):okB (b+1) (aU c i):=by
 have:=h.add hb i (-1) (k:=1) ⟨by omega,by omega⟩
 rw[show aU c i=ig c i (-1) by simp only[aU,ig]; rfl]; exact this
theorem E8.b{c:List Int}(h:E8 c):okB 1048576 c:=fun x hx=>by have:=h x hx; omega
theorem ak.xO{h:Hz}{j:Nat}{v:Int}{l:List Int}(q:h.get j=some (.row 3 0 (.ints l) [])):ak (.fZ [.dat (.elem ⟨v,l⟩),.bool true]) (.fZ [.agg [.int v,.own j],.bool true]) h:=⟨by
 show T.sub (fun _=>True) h.au (.fZ [.agg [.int v,.sl 0 false (l.map T.int)],.bool true]) (.fZ [.agg [.int v,.own j],.bool true])
 have:=D5 (Z:=fun _=>True) trivial q
 replace this:T.sub (fun _=>True) h.au (.sl 0 false (l.map T.int)) (.own j):=this
 simp only[T.sub] at this
 simp only[T.sub,T.dP]
 exact⟨⟨trivial,this,trivial⟩,trivial,trivial⟩⟩
theorem Bj{n:Nat}(h:0<n):(bif isZero (.int n) then some Rw.nil else LY (n:Int).toNat (T.int 0))=some (.ints (List.replicate n 0)):=by
 cases n with
 |zero=>omega
 |succ k=>rfl
theorem vK{r:Rule}{c:List Int}{i:Nat}:pI r c (i+1)=ig (pI r c i) (r.response.getD i 0) (c.getD i 0):=by
 simp only[pI,List.range_succ,List.foldl_append,List.foldl_cons,List.foldl_nil]
theorem rF{r:Rule}{c:List Int}{i:Nat}:(pI r c i).length=c.length:=by
 induction i with
 |zero=>simp[pI]
 |succ i ih=>rw[vK]; simp[ig,ih]
theorem ZT{r:Rule}{c:List Int}{b:Int}(h:okB b c)(hb:0<=b)(i:Nat):okB (i*b) (pI r c i):=by
 induction i with
 |zero=>intro x hx; simp[pI] at hx; omega
 |succ i ih =>
  rw[vK]
  have h0:0<=(i:Int)*b:=Int.mul_nonneg (by omega) hb
  have:=ih.add h0 (r.response.getD i 0) (c.getD i 0) (k:=b) (h.get hb i)
  rw[show((i+1:Nat):Int)*b=i*b+b by rw[Int.natCast_add,Int.add_mul]; simp]; exact this
abbrev mg(l:List Int):OV:=.row 3 0 (.ints l) []
theorem S.YA(e:Elem)(he:e.counts.length<2^30)(n:Nat):aV Tryz.prog 27 (V.aS [.dat (.elem e)]) (Hz.au []) n (fun t hp=>t= .agg [.int e.value,.own n]/\hp=Hz.au [(n,some (mg e.counts))]):=by
 refine pJ.of (nx:=0) Bd.uF (by simp) ⟨_,_,rfl,rfl⟩ rfl rfl ?_
 conv=>whnf
 refine .mk (by simp only[nY,o9,Rw.len]; omega) ?_
 conv=>whnf
 exact nP.one (c:=n) (j:=7) (o:=mg e.counts) (t:=.agg [.int e.value,.own n]) rfl rfl rfl nofun (.inr rfl) ⟨trivial,rfl,trivial⟩ (.eq rfl) ⟨rfl,rfl⟩
theorem S.GX(e:Elem)(he:e.counts.length<2^30):wC Tryz.prog 27 [fD e] (fun n=>.agg [.int e.value,.own n]) (some ⟨3,0,e.counts.map T.int⟩):=by
 refine⟨by exact V.jH [.dat (.elem e)] rfl,fun n=>⟨trivial,rfl,trivial⟩,fun ob h=>?_,fun ob h=>?_,fun n=>?_⟩
 ·cases h
  show T.dK (e.counts.map T.int)=true
  rw[dR]; intro t ht; obtain⟨x,_,rfl⟩:=List.mem_map.1 ht; rfl
 ·cases h; exact show(0:Nat)≠fQ by decide
 ·have:=S.YA e he n
  have e1:Hz.au [(n,some (mg e.counts))]=iq no n (some ⟨3,0,e.counts.map T.int⟩):=by
   rw[bG]; simp[iq,OV.ay,Rw.aS,V.aS]; rfl
  rw[e1] at this
  exact this
theorem OE{h:Hz}{n:Nat}{l:List Int}:iq h.au n (some ⟨3,0,l.map T.int⟩)=Hz.au ((n,some (mg l))::h):=by
 rw[bG]; simp[iq,OV.ay,Rw.aS,V.aS]
theorem lt1{x:Int}(h:0<=x):decide (x<1)=(x==0):=by
 rw[Bool.eq_iff_iff]; simp; omega
theorem acY{l:List Int}{s:Int}:Ei l s=true↔s∈l:=by
 simp only[Ei,List.any_eq_true,beq_iff_eq]
 constructor
 ·rintro⟨x,h,rfl⟩; exact h
 ·intro h; exact⟨s,h,rfl⟩
theorem aaX{al c:List Int}(hc: ∀ i,0<=c.getD i 0):zS al c c.length=(decide (0<(al.length:Int))&&Bv c al):=by
 rw[Bool.eq_iff_iff,Bool.and_eq_true]
 simp only[zS,Bv,oN,Bool.and_eq_true,decide_eq_true_eq,Bool.not_eq_true',beq_eq_false_iff_ne,ne_eq]
 constructor
 ·rintro⟨i,h1,h2,h3,h4⟩
  exact⟨h3,i,h1,by have:=hc i; omega,h4⟩
 ·rintro⟨h3,i,h1,h2,h4⟩
  exact⟨i,h1,by omega,h3,h4⟩
theorem found_eq{ex c:List Int}(hc: ∀ i,0<=c.getD i 0)(hx:rE c.length ex):(!(wG ex c c.length))=(decide (0<(ex.length:Int))&& !(FQ c ex)):=by
 have h:wG ex c c.length=(!(decide (0<(ex.length:Int)))||FQ c ex):=by
  rw[wG]
  congr 1
  ·rw[Bool.eq_iff_iff]; simp
  ·rw[Bool.eq_iff_iff]
   simp only[FQ,List.mem_range,Bool.and_eq_true,decide_eq_true_eq,Bool.not_eq_true',beq_eq_false_iff_ne,ne_eq,List.any_eq_true,acY]
   constructor
   ·rintro⟨i,h1,h2,h3⟩
    exact⟨i,h3,by have:=hc i; simp only[Int.toNat_natCast]; omega⟩
   ·rintro⟨q,h1,h2⟩
    obtain⟨t1,t2⟩:=hx q h1
    have t3:q.toNat<c.length:=by omega
    have t4: ¬ c.getD q.toNat 0=0:=by omega
    exact⟨q.toNat,t3,t4,by rw[Int.toNat_of_nonneg t1]; exact h1⟩
 rw[h]; cases decide (0<(ex.length:Int))<;>cases FQ c ex<;>rfl
theorem RQ{r:Rule}{c:List Int}(hc: ∀ i,0<=c.getD i 0)(hx:rE c.length r.ex) :
  ((decide (0<(r.ex.length:Int))&& !(FQ c r.ex))||(decide (0<(r.all.length:Int))&&Bv c r.all))= !(rG r c):=by
 rw[rG,Bool.not_and,Bool.not_not,aaX hc,found_eq hc hx,Bool.or_comm]
theorem Wh{r:Rule}{e:Elem}(hc:E8 e.counts)(h1:(decide (0<=r.read)&&e.value !=r.read||e.counts.getD r.fr.toNat 0==0)=false)(i:Nat):0<=(aU e.counts r.fr).getD i 0:=by
 have h0: ∀ j,0<=e.counts.getD j 0:=fun j=>by
  by_cases hj:j<e.counts.length
  ·exact(hc.get hj).1
  ·rw[show e.counts.getD j 0=0 by simp[List.getD_eq_getElem?_getD,List.getElem?_eq_none (by omega:e.counts.length<=j)]]; omega
 have h2:e.counts.getD r.fr.toNat 0≠0:=by
  rw[Bool.or_eq_false_iff] at h1
  have:=h1.2
  simpa using this
 have h3:=h0 r.fr.toNat
 have h4:=h0 i
 rw[aU,List.getD_eq_getElem?_getD,List.getElem?_set]
 split
 ·split
  ·simp only[Option.getD_some]; omega
  ·simp
 ·rw[<- List.getD_eq_getElem?_getD]; exact h4
theorem aT{ρ:Nat->Nat}{nx pn c n:Nat}{h:Hz}{s:List Nat}{o:OV}(a:(Nat.blt c nx&&(!(Nat.blt c pn)||Nat.beq n c)&&pK n s&&(o.good nx&&o.Ik))=true)(b:(h.get n).map OV.ay=some o.ay):Nat.blt c nx=true/\(Nat.blt c pn=true->n=c)/\pK n s=true/\o.good nx=true /\
   ∃ o',h.get n=some o'/\o'.ay.ty=o.ay.ty/\o'.ay.k=o.ay.k/\bD (T.bU ρ o.ay.l) o'.ay.l:=by
 simp only[Bool.and_eq_true,Bool.or_eq_true,Bool.not_eq_true'] at a
 obtain⟨⟨⟨a1,a2⟩,a3⟩,a4,a5⟩:=a
 obtain⟨o',b1,b2⟩:=Option.map_eq_some_iff.1 b
 exact⟨a1,fun h=>a2.elim (fun q=>by rw[q] at h; cases h) fM,a3,a4,o',b1,by rw[b2],by rw[b2],by rw[OV.zT a5,b2]; exact .refl _⟩
theorem kW{ρ:Nat->Nat}{nx pn c n:Nat}{h:Hz}{s:List Nat}{o o':OV}(a:(Nat.blt c nx&&(!(Nat.blt c pn)||Nat.beq n c)&&pK n s)=true)(g:o.good nx=true)(b:h.get n=some o')(t:o'.ay.ty=o.ay.ty/\o'.ay.k=o.ay.k)(l:bD (T.bU ρ o.ay.l) o'.ay.l):Nat.blt c nx=true/\(Nat.blt c pn=true->n=c)/\pK n s=true/\o.good nx=true /\
   ∃ o',h.get n=some o'/\o'.ay.ty=o.ay.ty/\o'.ay.k=o.ay.k/\bD (T.bU ρ o.ay.l) o'.ay.l:=by
 simp only[Bool.and_eq_true,Bool.or_eq_true,Bool.not_eq_true'] at a
 obtain⟨⟨a1,a2⟩,a3⟩:=a
 exact⟨a1,fun h=>a2.elim (fun q=>by rw[q] at h; cases h) fM,a3,g,o',b,t.1,t.2,l⟩
theorem okF{ρ:Nat->Nat}{nx pn c n:Nat}{h:Hz}{s:List Nat}{o o':OV}(q1:Nat.blt c nx=true)(q2:Nat.blt c pn=true->n=c)(q3:pK n s=true)(q4:(o.good nx&&o.Ik)=true)(q5:h.get n=some o')
  (q6:o'.ay.ty=o.ay.ty/\o'.ay.k=o.ay.k) (q7:o.ay.l=o'.ay.l):Nat.blt c nx=true/\(Nat.blt c pn=true->n=c)/\pK n s=true/\o.good nx=true /\
   ∃ o',h.get n=some o'/\o'.ay.ty=o.ay.ty/\o'.ay.k=o.ay.k/\bD (T.bU ρ o.ay.l) o'.ay.l:=by
 rw[Bool.and_eq_true] at q4
 exact⟨q1,q2,q3,q4.1,o',q5,q6.1,q6.2,bD.of_eq ((OV.zT q4.2 ρ).trans q7)⟩
set_option maxHeartbeats 1000000 in
theorem S.BA(r:Rule)(e:Elem)(hr:yt r)(hp:sZ e.counts.length r)(hc:E8 e.counts)(hl:e.counts.length<=6):aj Tryz.prog 87 [.dat (.rule r),.dat (.elem e)] (iw r e):=by
 obtain⟨f1,f2⟩:=hp.src
 obtain⟨d1,d2⟩:=hp.dst
 obtain⟨p1,p2⟩:=hp.XR
 obtain⟨q1,q2⟩:=hp.XT
 have hfr:=hc.get (i:=r.fr.toNat) (by omega)
 refine aj.of Bd.BA (by simp) rfl (JG r e) ?_
 conv=>whnf
 repeat(refine VC.mk (by first|exact id|exact fun h=>⟨h,h⟩|(intro h; rw[h]; rfl)|(intro h; (repeat' apply And.intro)<;>first|exact h|omega|(simp only[Rw.nO]; omega)|(simp only[Rw.rng]; omega))) ?_; conv=>whnf)
 refine⟨fun h1=>?_,fun h1=>?_⟩
 ·conv=>whnf
  refine ak.eqv ?_
  rw[lt1 hfr.1] at h1
  rw[iw,eP,h1]; rfl
 rw[lt1 hfr.1] at h1
 conv=>whnf
 refine ah.heap (wC.frame (S.GX e (by omega)) _ _) ?_
 rintro t hp ⟨rfl,rfl⟩
 refine⟨.agg [.int e.value,.own 24],(24,some (mg e.counts))::_,rfl,OE,?_⟩
 have hl1:(aU e.counts r.fr).length=e.counts.length:=by simp[aU]
 conv=>whnf
 repeat(refine VC.mk (by first|(first|(simp only[Rw.rng]; omega)|(simp only[okI,aU] at *; omega))|exact fun h=>h|exact fun h=>⟨h,h⟩) ?_; conv=>whnf)
 have hex:=hr.ex
 have hal:=hr.all
 refine ah.WC (fun _=>S.BR (aU e.counts r.fr) r.ex false false (by omega) (by omega) (by rw[hl1]; exact hp.exs)) (fun _=>And.intro (D5 trivial rfl) (And.intro (aG _) trivial)) rfl rfl ?_
 conv=>whnf
 repeat(refine VC.mk (by first|exact id|exact fun h=>⟨h,h⟩|(intro h; simp[h]; done)) ?_; conv=>whnf)
 refine ah.WC (fun _=>S.uI (aU e.counts r.fr) r.all false false (by omega) (by omega)) (fun _=>And.intro (D5 trivial rfl) (And.intro (aG _) trivial)) rfl rfl ?_
 conv=>whnf
 repeat(refine VC.mk (by cases (r.kind==1)<;>cases (decide (0<(r.ex.length:Int))&& !FQ (aU e.counts r.fr) r.ex)<;>simp) ?_; conv=>whnf)
 have hpos: ∀ i,0<=(aU e.counts r.fr).getD i 0:=Wh hc h1
 refine⟨fun h2=>?_,fun h2=>?_⟩
 ·replace h2:((r.kind==1)&&((decide (0<(r.ex.length:Int))&& !(FQ (aU e.counts r.fr) r.ex))||(decide (0<(r.all.length:Int))&&Bv (aU e.counts r.fr) r.all)))=true:=h2
  rw[RQ hpos (by rw[hl1]; exact hp.exs),Bool.and_eq_true] at h2
  conv=>whnf
  refine ak.eqv ?_
  rw[iw,eP,h1,h2.1,h2.2]; rfl
 replace h2:((r.kind==1)&&((decide (0<(r.ex.length:Int))&& !(FQ (aU e.counts r.fr) r.ex))||(decide (0<(r.all.length:Int))&&Bv (aU e.counts r.fr) r.all)))=false:=h2
 rw[RQ hpos (by rw[hl1]; exact hp.exs)] at h2
 conv=>whnf
 refine⟨fun h5=>?_,fun h5=>?_⟩
 ·replace h5:(r.kind==2)=true:=h5
  have hB:=hc.b.dec (by omega) r.fr
  have hB1:=hB.get (by omega) r.fP.toNat
  have hB2:=hB.dec (by omega) r.fP
  have hB3:=hB2.get (by omega) r.Bh.toNat
  have hB4:=hB2.add (by omega) r.Bh 1 (k:=1) ⟨by omega,by omega⟩
  have hB5:=hB4.get (by omega) r.to.toNat
  have h12:(r.kind==1)=false:=by rw[beq_iff_eq.1 h5]; rfl
  conv=>whnf
  repeat(refine VC.mk (by first|(simp only[Rw.rng,List.length_set]; omega)|(simp only[aU,ig] at *; omega)) ?_; conv=>whnf)
  refine⟨fun h6=>?_,fun h6=>?_⟩
  ·replace h6:decide ((aU e.counts r.fr).getD r.fP.toNat 0<1)=true:=h6
   rw[lt1 (hpos _)] at h6
   conv=>whnf
   refine ak.eqv ?_
   rw[iw,eP,h1,h12,h5,h6]; rfl
  ·replace h6:decide ((aU e.counts r.fr).getD r.fP.toNat 0<1)=false:=h6
   rw[lt1 (hpos _)] at h6
   have h13:(r.kind==3)=false:=by rw[beq_iff_eq.1 h5]; rfl
   conv=>whnf
   repeat(refine VC.mk (by first|(simp only[Rw.rng,List.length_set]; omega)|(simp only[okI,aU,ig] at *; omega)) ?_; conv=>whnf)
   refine Fork.mk (fun q=>absurd (q.symm.trans (h13)).symm Bool.false_ne_true) (fun _=>?_)
   conv=>whnf
   repeat(refine VC.mk (by simp only[okI,Rw.rng] at *; first|omega|(simp_all; done)|(simp_all; omega)) ?_; conv=>whnf)
   conv=>whnf
   repeat(refine VC.mk (by first|(simp only[Rw.rng,List.length_set]; omega)|(simp only[okI,aU,ig] at *; omega)) ?_; conv=>whnf)
   refine⟨fun h4=>?_,fun h4=>?_⟩
   ·replace h4:decide (r.write>=0)=true:=h4
    have hS:iw r e= .fZ [.dat (.elem ⟨r.write,ig (ig (aU (aU e.counts r.fr) r.fP) r.Bh 1) r.to 1⟩),.bool true]:=by rw[iw,eP,h1,h12,h5,h6,h4]; rfl
    conv=>whnf
    rw[hS]
    exact ak.xO rfl
   ·replace h4:decide (r.write>=0)=false:=h4
    have hS:iw r e= .fZ [.dat (.elem ⟨e.value,ig (ig (aU (aU e.counts r.fr) r.fP) r.Bh 1) r.to 1⟩),.bool true]:=by rw[iw,eP,h1,h12,h5,h6,h4]; rfl
    conv=>whnf
    rw[hS]
    exact ak.xO rfl
 ·replace h5:(r.kind==2)=false:=h5
  conv=>whnf
  refine⟨fun h6=>?_,fun h6=>?_⟩
  ·have h12:(r.kind==1)=false:=by rw[beq_iff_eq.1 h6]; rfl
   have hB:=hc.b.dec (by omega) r.fr
   obtain⟨rs1,rs2⟩:=hp.rsp (beq_iff_eq.1 h6)
   conv=>whnf
   have hm:=Bj (n:=(aU e.counts r.fr).length) (by omega)
   simp only[aU] at hm
   rw[hm]
   conv=>whnf
   refine .mk (by simp only[List.length_set]; omega) ?_
   conv=>whnf
   refine aB.nH 100 [2,4,6] (fun i:Nat=>[(8,.int i),(7,.own 75)]) (fun i=>[(0,.box 85 19 (.dat (.rule r))),(1,.box 54 3 (.dat (.elem e))),(2,.box 54 3 (.agg [.int 0,.row 0 true .nil])),(24,mg (aU e.counts r.fr)),(25,.box 54 3 (.agg [.int e.value,.own 24])),(75,mg (pI r (aU e.counts r.fr) i))]) (fun i=>i<=(aU e.counts r.fr).length) (fun i=>(aU e.counts r.fr).length-i) 0 [0,1,2,24,25,75] rfl (by decide) (fun _=>rfl) (Nat.zero_le _) ?_ ?_ ?_
   ·exact(sR rfl)
   ·exact⟨aT rfl rfl,aT rfl rfl,aT rfl rfl,aT rfl rfl,kW rfl rfl rfl ⟨rfl,rfl⟩ (bD.of_eq rfl),aT rfl rfl,trivial⟩
   conv=>whnf
   refine⟨(sR rfl),rfl,?_⟩
   rintro i hi
   have hn6:(i:Int)*1048577<=6*1048577:=Int.mul_le_mul_of_nonneg_right (by omega) (by omega)
   have hn0:0<=(i:Int)*1048577:=Int.mul_nonneg (by omega) (by omega)
   have hRB:=ZT hB (by omega) (r:=r) i
   have hRl:(pI r (aU e.counts r.fr) i).length=e.counts.length:=by rw[rF,hl1]
   conv=>whnf
   refine⟨fun g1=>?_,fun g1=>?_⟩
   ·have hi':i<(aU e.counts r.fr).length:=by
     have:(i:Int)<((pI r (aU e.counts r.fr) i).length:Int):=of_decide_eq_true g1
     omega
    have hir:i<r.response.length:=by omega
    obtain⟨q3,q4⟩:0<=r.response.getD i 0/\r.response.getD i 0<e.counts.length:=by
     rw[show r.response.getD i 0=r.response[i] by simp[hir]]; exact rs2 _ (List.getElem_mem hir)
    have hR1:=hRB.get hn0 (r.response.getD i 0).toNat
    have hR2:=hB.get (by omega) i
    conv=>whnf
    repeat(refine VC.mk (by first|(first|(simp only[Rw.rng,rF]; omega)|(simp only[okI,aU,Int.toNat_natCast] at *; omega))|(simp only[Rw.rng] at *; first|omega|(simp_all; done)|(simp_all; omega))) ?_; conv=>whnf)
    refine⟨i+1,[0,1,2,24,25,75],by omega,by omega,(sR rfl),(sR rfl),aT rfl rfl,aT rfl rfl,aT rfl rfl,aT rfl rfl,kW rfl rfl rfl ⟨rfl,rfl⟩ (bD.of_eq rfl),okF rfl nofun rfl rfl rfl ?_ ?_,trivial⟩
    ·exact⟨rfl,rfl⟩
    ·rw[vK]; rfl
   have hi':i=(aU e.counts r.fr).length:=by
    have: ¬ ((i:Int)<((pI r (aU e.counts r.fr) i).length:Int)):=of_decide_eq_false g1
    omega
   subst hi'
   have hR1:=hRB.get hn0 r.to.toNat
   conv=>whnf
   repeat(refine VC.mk (by first|(simp only[Rw.rng,rF]; omega)|(simp only[okI,aU,Int.toNat_natCast] at *; omega)) ?_; conv=>whnf)
   refine⟨fun h4=>?_,fun h4=>?_⟩
   ·replace h4:decide (r.write>=0)=true:=h4
    have hS:iw r e= .fZ [.dat (.elem ⟨r.write,ig (pI r (aU e.counts r.fr) (aU e.counts r.fr).length) r.to 1⟩),.bool true]:=by rw[iw,eP,h1,h12,h5,h6,h4]; rfl
    conv=>whnf
    rw[hS]
    exact ak.xO rfl
   ·replace h4:decide (r.write>=0)=false:=h4
    have hS:iw r e= .fZ [.dat (.elem ⟨e.value,ig (pI r (aU e.counts r.fr) (aU e.counts r.fr).length) r.to 1⟩),.bool true]:=by rw[iw,eP,h1,h12,h5,h6,h4]; rfl
    conv=>whnf
    rw[hS]
    exact ak.xO rfl
  ·replace h6:(r.kind==3)=false:=h6
   have hB:=hc.b.dec (by omega) r.fr
   have hB1:=hB.get (by omega) r.to.toNat
   have hgen:eP r e=some ⟨bif decide (r.write>=0) then r.write else e.value,ig (aU e.counts r.fr) r.to 1⟩:=by
    rw[eP,h1,h5,h6]
    cases h12:(r.kind==1) with
    |false=>rfl
    |true=>rw[h12,Bool.true_and] at h2; rw[h2]; rfl
   conv=>whnf
   repeat(refine VC.mk (by first|(simp only[Rw.rng,List.length_set]; omega)|(simp only[okI,aU,ig] at *; omega)) ?_; conv=>whnf)
   refine⟨fun h4=>?_,fun h4=>?_⟩
   ·replace h4:decide (r.write>=0)=true:=h4
    have hS:iw r e= .fZ [.dat (.elem ⟨r.write,ig (aU e.counts r.fr) r.to 1⟩),.bool true]:=by rw[iw,hgen,h4]; rfl
    conv=>whnf
    rw[hS]
    exact ak.xO rfl
   ·replace h4:decide (r.write>=0)=false:=h4
    have hS:iw r e= .fZ [.dat (.elem ⟨e.value,ig (aU e.counts r.fr) r.to 1⟩),.bool true]:=by rw[iw,hgen,h4]; rfl
    conv=>whnf
    rw[hS]
    exact ak.xO rfl
theorem bz{c:Bool}{a b:Int}(ha:c=true->a≠0)(h:(bif c then a else b)=0):c=false/\b=0:=by
 cases c with
 |true=>exact absurd h (ha rfl)
 |false=>exact⟨rfl,h⟩
theorem nz{a:Int}(h:(a !=0)=true):a≠0:=by simpa using h
theorem wP: ∀ {l:List Int},bF l=0-> ∀ x∈l,x=0:=by
 intro l
 induction l with
 |nil=>intro _ x h; cases h
 |cons a r ih =>
  intro h x hx
  simp only[bF] at h
  split at h
  ·rename_i h0
   rcases List.mem_cons.1 hx with rfl|hx
   ·exact h0
   ·exact ih h x hx
  ·rename_i h0; exact absurd h h0
structure OG(p:aC):Prop where
 pos:0<p.states.length
 states:p.states.length<=6
 values:p.values.length<=3
 O5:p.rules.length<=8
 init:jA p.initial p.states.length=0
 start:p.initial≠[]
 rule: ∀ i,i<p.rules.length->iF p i=0
theorem lT{p:aC}(h:dw p=0):OG p:=by
 unfold dw at h
 obtain⟨_,h⟩:=bz (fun _=>by decide) h
 obtain⟨_,h⟩:=bz (fun _=>by decide) h
 obtain⟨h0,h⟩:=bz (fun _=>by decide) h
 obtain⟨h1,h⟩:=bz (fun _=>by decide) h
 obtain⟨_,h⟩:=bz nz h
 obtain⟨_,h⟩:=bz (fun _=>by decide) h
 obtain⟨_,h⟩:=bz (fun _=>by decide) h
 obtain⟨h2,h⟩:=bz nz h
 obtain⟨h3,h⟩:=bz nz h
 have h2':y8 p=0:=by simpa using h2
 have h3':Ey p=0:=by simpa using h3
 have g:=wP h2'
 simp only[wQ,Bool.or_eq_false_iff,decide_eq_false_iff_not] at h1
 refine⟨?_,by omega,by omega,by omega,g _ (by simp),?_,fun i hi=>?_⟩
 ·have:(p.states.length:Int)≠0:=by simpa using h0
  omega
 ·intro e
  have:=g (fF ((p.initial.length:Int)==0) 1) (by simp)
  rw[e] at this; exact absurd this (by decide)
 ·exact wP h3' _ (List.mem_map.2 ⟨i,by simpa using hi,rfl⟩)
theorem vG{x:Int}{n:Nat}(h:pW x n=false):0<=x/\x<n:=by
 simp only[pW,Bool.or_eq_false_iff,decide_eq_false_iff_not] at h; omega
theorem Ez{x:Int}{n:Nat}(h:dH x n=0):0<=x/\x<n:=by
 refine vG ?_
 unfold dH fF at h
 cases hb:pW x n with
 |false=>rfl
 |true=>rw[hb] at h; exact absurd h (by decide)
theorem NI{l:List Int}{n:Nat}(h:jA l n=0):rE n l:=by
 unfold jA at h
 obtain⟨h,_⟩:=bz (fun _=>by decide) h
 rw[List.any_eq_false] at h
 exact fun q hq=>vG (by simpa using h q hq)
theorem RS{n:Nat}: ∀ {l:List Int},qE l n=0->rE n l:=by
 intro l
 induction l with
 |nil=>intro _ q h; cases h
 |cons x r ih =>
  intro h q hq
  simp only[qE] at h
  split at h
  ·rename_i h0
   rcases List.mem_cons.1 hq with rfl|hq
   ·exact Ez h0
   ·exact ih h q hq
  ·rename_i h0; exact absurd h h0
theorem MR{k:Int}(h:uw k 1=true):k=1\/k=2\/k=3:=by
 unfold uw at h
 cases h1:(k==1) with
 |true=>exact .inl (beq_iff_eq.1 h1)
 |false =>
  cases h2:(k==2) with
  |true=>exact .inr (.inl (beq_iff_eq.1 h2))
  |false =>
   cases h3:(k==3) with
   |true=>exact .inr (.inr (beq_iff_eq.1 h3))
   |false=>rw[h1,h2,h3] at h; cases hb:(k==4||k==5)<;>rw[hb] at h<;>cases h
structure agH(n:Nat)(p:aC)(r:Rule):Prop where
 place:sZ n r
 kind:r.kind=1\/r.kind=2\/r.kind=3
 aiu:rE n r.all
 ex1:r.kind≠1->r.ex=[]/\r.all=[]
 rd:pW r.read p.values.length=false\/r.read= -1
 wr:pW r.write p.values.length=false\/r.write= -1
theorem tK{p:aC}{v:Int}(h:jS p v=0):pW v p.values.length=false\/v= -1:=by
 unfold jS fF at h
 have h': ¬ (v< -1\/v>=(p.values.length:Int)):=by
  intro q
  have:(decide (v< -1)||decide (v>=(p.values.length:Int)))=true:=by simpa using q
  rw[this] at h; exact absurd h (by decide)
 by_cases e:v= -1
 ·exact .inr e
 ·left
  simp only[pW,Bool.or_eq_false_iff,decide_eq_false_iff_not]; omega
theorem aee{p:aC}{i:Nat}(hv:OG p)(ht:p.topology=1)(hi:i<p.rules.length):agH p.states.length p (p.rules.getD i default):=by
 have h:=hv.rule i hi
 have hpos:=hv.pos
 simp only[iF,qh] at h
 generalize (p.rules.getD i default)=r at h ⊢
 obtain⟨_,h⟩:=bz (fun _=>by decide) h
 obtain⟨hb,h⟩:=bz (fun _=>by decide) h
 obtain⟨he,h⟩:=bz nz h
 rw[Jh,Bool.or_eq_false_iff] at he
 rw[ht,Bool.or_eq_false_iff] at hb
 have hk:=MR (show uw r.kind 1=true by simpa using hb.1)
 have hu:kM r 1=false:=by rw[wE (by omega)]; exact hb.2
 have hun:=NJ hu
 have hpf:r.kind≠2->r.kind≠5->r.fP=0/\r.Bh=0:=by
  intro k1 k2
  simp only[kM,OH,Bool.or_eq_false_iff] at hu
  have h3:=hu.2.2.1
  simp only[beq_eq_false_iff_ne.2 k1,beq_eq_false_iff_ne.2 k2,Bool.not_false,Bool.true_and,Bool.or_eq_false_iff] at h3
  exact⟨U3 h3.1,U3 h3.2⟩
 have h00:(0:Int)<=0/\(0:Int)<p.states.length:=⟨by omega,by omega⟩
 have pn:rE p.states.length []:=fun q hq=>by cases hq
 rcases hk with e|e|e
 ·rw[e] at h
  have g:=wP h
  have⟨a,b⟩:=hpf (by omega) (by omega)
  exact⟨⟨vG he.1,vG he.2,by rw[a]; exact h00,by rw[b]; exact h00,fun q=>by omega,NI (g (jA r.ex p.states.length) (by simp))⟩,.inl e,NI (g (jA r.all p.states.length) (by simp)),fun q=>absurd e q,tK (g (jS p r.read) (by simp)),tK (g (jS p r.write) (by simp))⟩
 ·rw[e] at h
  have g:=wP h
  obtain⟨_,u1,u2,_⟩:=hun.1 (by omega)
  exact⟨⟨vG he.1,vG he.2,Ez (g (dH r.fP p.states.length) (by simp)),Ez (g (dH r.Bh p.states.length) (by simp)),fun q=>by omega,by rw[u1]; exact pn⟩,.inr (.inl e),by rw[u2]; exact pn,fun _=>⟨u1,u2⟩,tK (g (jS p r.read) (by simp)),tK (g (jS p r.write) (by simp))⟩
 ·rw[e] at h
  have g:=wP h
  have⟨a,b⟩:=hpf (by omega) (by omega)
  obtain⟨_,u1,u2,_⟩:=hun.1 (by omega)
  have hr:=g (FT r.response p.states.length) (by simp)
  unfold FT at hr
  obtain⟨r1,r2⟩:=bz (fun _=>by decide) hr
  exact⟨⟨vG he.1,vG he.2,by rw[a]; exact h00,by rw[b]; exact h00,fun _=>⟨by have q9:(r.response.length:Int)=p.states.length:=(by simpa using r1); omega,RS r2⟩,by rw[u1]; exact pn⟩,.inr (.inr e),by rw[u2]; exact pn,fun _=>⟨u1,u2⟩,tK (g (jS p r.read) (by simp)),tK (g (jS p r.write) (by simp))⟩
theorem MS{p:aC}(h:tN p=true):p.topology=1:=by
 simp only[tN,Bool.and_eq_true,beq_iff_eq] at h; exact h.1.1.1
structure aiv(p:aC)(e:Elem):Prop where
 valid:OG p
 plain:tN p=true
 len:e.counts.length=p.states.length
 nums:E8 e.counts
 val:0<=e.value/\e.value<max 1 (p.values.length:Int)
theorem iP{p:aC}(h:OC p=0):dw p=0/\tN p=true:=by
 unfold OC at h
 obtain⟨h1,h⟩:=bz nz h
 obtain⟨h2,_⟩:=bz (fun _=>by decide) h
 refine⟨by simpa using h1,?_⟩
 simp only[oJ] at h2
 cases hp:tN p with
 |true=>rfl
 |false=>rw[hp] at h2; simp at h2
theorem Wq{x:Int}:IV x=true↔0<=x/\x<=1048576:=by simp[IV]
theorem aeL{p:aC}{e:Elem}(h:OD p e=false):e.counts.length=p.states.length/\E8 e.counts/\0<=e.value/\e.value<max 1 (p.values.length:Int):=by
 simp only[OD,Bool.or_eq_false_iff,decide_eq_false_iff_not] at h
 obtain⟨⟨⟨h1,h2⟩,h3⟩,h4⟩:=h
 refine⟨?_,fun x hx=>?_,by omega,by omega⟩
 ·have:(e.counts.length:Int)=p.states.length:=by simpa using h1
  omega
 ·have:e.counts.all IV=true:=by simpa using h2
  exact Wq.1 (List.all_eq_true.1 this x hx)
theorem iU{α:Type}{c:Bool}{a b:Option α}{x:α}(h:(bif c then a else b)=some x):a=some x\/b=some x:=by
 cases c with
 |true=>exact .inl h
 |false=>exact .inr h
theorem GZ{c:List Int}{i d:Int}:(ig c i d).length=c.length:=by simp[ig]
theorem kK{c:List Int}{i:Int}:(aU c i).length=c.length:=by simp[aU]
theorem yJ{r:Rule}{e x:Elem}(h:eP r e=some x):x.counts.length=e.counts.length:=by
 simp only[eP] at h
 have out: ∀ {c:List Int} {v:Int},c.length=e.counts.length->some (⟨v,ig c r.to 1⟩:Elem)=some x->x.counts.length=e.counts.length:=by
  intro c v hc h; cases h; rw[GZ,hc]
 rcases iU h with h|h
 ·cases h
 rcases iU h with h|h
 ·rcases iU h with h|h
  ·cases h
  ·exact out kK h
 rcases iU h with h|h
 ·rcases iU h with h|h
  ·cases h
  ·exact out (by rw[GZ,kK,kK]) h
 rcases iU h with h|h
 ·exact out (by rw[rF,kK]) h
 ·exact out kK h
end Go.Proofs.YtajmbgljnaljiaaGreatDoor
namespace Go.Proofs.YtajmbgljnaljiaaGreatDoor
open Go.Ab Go.Proofs
set_option maxRecDepth 100000
theorem ah.insert{h:Hz}{i n:Nat}{l:List Elem}{e:Elem}{K:V->Hz->Prop}{KW:Nat->V->Hz->Prop}(hi:h.get i=some (eH l))(hn:h.get n=none)(hl:l.length<2^30)(hs:eF l)(he:e.counts.length<2^30)
  (h1:tJ l e=true->K (.own i) ((i,some (eH l))::h)) (h2:tJ l e=false->K (.own n) ((n,some (eH (nR l e)))::(i,none)::h)):ah Tryz.prog false none 53 [.own i,.dat (.elem e)] h n K KW:=by
 refine ah.ZX (ts:=[.own 0,.dat (.elem e)]) (S.wR l e 1 (by decide) hl hs he) ?_ rfl rfl rfl hi hn ?_
 ·show [T.own i,T.ren _ (fD e)]=[T.own i,fD e]
  rfl
 ·rintro t hp (⟨a,rfl,rfl⟩|⟨a,rfl,rfl⟩)
  ·exact .inl ⟨.own i,eH l,rfl,rfl,rfl,h1 a⟩
  ·exact .inr ⟨.own n,eH (nR l e),rfl,rfl,rfl,h2 a⟩
theorem ak.aeg{h:Hz}{k:Nat}{c:Int}:ak (.fZ [.row 3 false (.elems []),.int c]) (.fZ [.row k true .nil,.int c]) h:=⟨by
 show T.sub (fun _=>True) h.au (.fZ [.sl 3 false [],.int c]) (.fZ [.sl k true [],.int c])
 simp[T.sub,T.dP]⟩
structure gG(q:Prop'):Prop where
 start:q.start.length<2^30
 bad:q.bad.length<2^30
 adjacent:q.adjacent.length<2^30
 goal:q.goal.length<2^30
 cnt: ∀ i,(q.bad.getD i default).states.length<2^30
def y9(c:Cnt):Bool:=((c.states.length:Int)==0||decide (c.least<1))||decide (c.least>3)
def Ph(n:Int)(c:Cnt):Int:=bF [jA c.states n,fF (y9 c) 1]
def xR(l:List Cnt)(n:Int):Int:=bF (l.map (Ph n))
def I4(p:aC)(l:List Int):Int:=bif (l.length:Int)==0 then 0 else bif p.topology==1 then 6 else bif (l.length:Int) !=2 then 1 else bF [dH (l.getD 0 0) p.states.length,dH (l.getD 1 0) p.states.length]
def vH(q:Prop'):Bool:=((q.kind==1)&&decide ((q.goal.length:Int)>0))||(!(q.kind==1)&&(decide ((q.bad.length:Int)>0)||decide ((q.adjacent.length:Int)>0)))
def jy(p:aC)(q:Prop'):Int :=
 let n:Int:=p.states.length
 bif dw p !=0 then dw p else bif !(validName q.name) then 2 else bif !(q.kind==1)&&q.kind !=2 then 1 else bif vH q then 1 else
 bif jA q.start n !=0 then jA q.start n else bif q.start.any (fun x=> !(Ei p.initial x)) then 5 else
 bif !(q.kind==1) then bF [jA q.goal n,fF ((q.goal.length:Int)==0) 1] else
 bF [fF (((q.bad.length:Int)==0)&&((q.adjacent.length:Int)==0)) 1,fF (decide ((q.bad.length:Int)>3)) 4,xR q.bad n,I4 p q.adjacent]
theorem S.mP(l:List Cnt)(n:Int)(f:Bool)(hl:l.length<2^30)(hs: ∀ i,(l.getD i default).states.length<2^30):aj Tryz.prog 104 [.row 3 f (.cnts l),.int n] (.int (xR l n)):=by
 refine aj.of Bd.mP (by simp) rfl rfl ?_
 conv=>whnf
 refine aB.same [1,8,9] (fun i:Nat=>[(10,.int i)]) (fun i=>i<=l.length/\xR l n=bF ((l.drop i).map (Ph n))) (fun i=>l.length-i) 0 rfl (by decide) rfl (fun _=>rfl) ⟨by omega,by simp[xR]⟩ ⟨⟨_,rfl,rfl⟩,trivial⟩ ?_
 conv=>whnf
 refine⟨rfl,?_⟩
 rintro i ⟨hi,hall⟩
 conv=>whnf
 refine⟨fun h3=>?_,fun h3=>?_⟩
 ·have hi':i<l.length:=by simpa using h3
  rw[dU default hi',List.map_cons] at hall
  simp only[bF] at hall
  have hc:=hs i
  conv=>whnf
  refine .mk (by simp only[Rw.rng] at *; omega) ?_
  conv=>whnf
  refine ah.pure (S.eG (l.getD i default).states n false (by omega)) rfl ?_
  conv=>whnf
  repeat(refine VC.mk (by first|exact id|(intro h; rw[h]; rfl)) ?_; conv=>whnf)
  refine ah.pure (S.dh (y9 (l.getD i default)) 1) rfl ?_
  conv=>whnf
  refine ah.pure (S.bY [jA (l.getD i default).states n,fF (y9 (l.getD i default)) 1] true (show 2<2^40 by decide)) rfl ?_
  conv=>whnf
  refine⟨fun h4=>?_,fun h4=>?_⟩
  ·conv=>whnf
   refine ak.int ?_
   have h4':Ph n (l.getD i default)≠0:=nz h4
   rw[hall,if_neg h4']; rfl
  ·conv=>whnf
   refine .mk (by simp only[okI] at *; omega) ?_
   conv=>whnf
   have h4':Ph n (l.getD i default)=0:=Kv h4
   rw[if_pos h4'] at hall
   refine⟨i+1,⟨by omega,hall⟩,by omega,⟨⟨_,rfl,rfl⟩,trivial⟩,?_,rfl⟩
   repeat' (first|exact trivial|exact⟨_,rfl,rfl⟩|constructor)
 ·have hi':l.length<=i:=by simpa using h3
  rw[List.drop_eq_nil_of_le hi'] at hall
  conv=>whnf
  exact ak.int (by rw[hall]; rfl)
theorem S.kQ(p:aC)(l:List Int)(f:Bool)(_hl:l.length<2^30):aj Tryz.prog 105 [.dat (.gW p),.row 0 f (.ints l)] (.int (I4 p l)):=by
 refine aj.of Bd.kQ (by simp) rfl rfl ?_
 conv=>whnf
 refine⟨fun h1=>?_,fun h1=>?_⟩
 ·conv=>whnf
  exact ak.int (by rw[I4,h1]; rfl)
 conv=>whnf
 refine⟨fun h2=>?_,fun h2=>?_⟩
 ·conv=>whnf
  exact ak.int (by rw[I4,h1,h2]; rfl)
 conv=>whnf
 refine⟨fun h3=>?_,fun h3=>?_⟩
 ·conv=>whnf
  exact ak.int (by rw[I4,h1,h2,h3]; rfl)
 have h4:l.length=2:=by
  have:(l.length:Int)=2:=by simpa using h3
  omega
 conv=>whnf
 repeat(refine VC.mk (by simp only[Rw.rng] at *; omega) ?_; conv=>whnf)
 refine ah.pure (S.dB (l.getD 0 0) p.states.length) rfl ?_
 conv=>whnf
 refine ah.pure (S.dB (l.getD 1 0) p.states.length) rfl ?_
 conv=>whnf
 refine ah.pure (S.bY [dH (l.getD 0 0) p.states.length,dH (l.getD 1 0) p.states.length] true (show 2<2^40 by decide)) rfl ?_
 conv=>whnf
 exact ak.int (by rw[I4,h1,h2,h3]; rfl)
theorem S.eu(p:aC)(q:Prop')(hp:dJ p)(hq:gG q):aj Tryz.prog 68 [.dat (.gW p),.dat (.prop q)] (.int (jy p q)):=by
 have g1:=hp.states; have g5:=hp.initial
 have q1:=hq.start; have q2:=hq.bad; have q3:=hq.adjacent; have q4:=hq.goal
 refine aj.of Bd.eu (by simp) rfl rfl ?_
 conv=>whnf
 refine ah.pure (S.jm p hp) rfl ?_
 conv=>whnf
 refine⟨fun h1=>?_,fun h1=>?_⟩
 ·conv=>whnf
  exact ak.int (by rw[jy,h1]; rfl)
 conv=>whnf
 refine ah.pure (S.gY q.name) rfl ?_
 conv=>whnf
 refine⟨fun h2=>?_,fun h2=>?_⟩
 ·conv=>whnf
  exact ak.int (by rw[jy,h1,h2]; rfl)
 conv=>whnf
 repeat(refine VC.mk id ?_; conv=>whnf)
 refine⟨fun h3=>?_,fun h3=>?_⟩
 ·conv=>whnf
  exact ak.int (by rw[jy,h1,h2,h3]; rfl)
 conv=>whnf
 repeat(refine VC.mk id ?_; conv=>whnf)
 refine⟨fun h4=>?_,fun h4=>?_⟩
 ·conv=>whnf
  refine Fork.mk (fun _=>?_) (fun q=>absurd (q.symm.trans (h4)) Bool.false_ne_true)
  conv=>whnf
  exact ak.int (by rw[jy,h1,h2,h3,show vH q=true by rw[vH]; erw [h4]; rfl]; rfl)
 conv=>whnf
 repeat(refine VC.mk (by first|exact id|(intro h; simp_all; done)) ?_; conv=>whnf)
 refine⟨fun h5=>?_,fun h5=>?_⟩
 ·conv=>whnf
  exact ak.int (by rw[jy,h1,h2,h3,show vH q=true by rw[vH]; erw [h5]; simp]; rfl)
 have h45:vH q=false:=by rw[vH]; erw [h4,h5]; rfl
 conv=>whnf
 refine ah.pure (S.eG q.start p.states.length false (by omega)) rfl ?_
 conv=>whnf
 refine⟨fun h6=>?_,fun h6=>?_⟩
 ·conv=>whnf
  exact ak.int (by rw[jy,h1,h2,h3,h45,h6]; rfl)
 conv=>whnf
 refine aB.same [2,3,6,7,65,66] (fun i:Nat=>[(67,.int i)]) (fun i=>i<=q.start.length/\(q.start.take i).any (fun x=> !(Ei p.initial x))=false) (fun i=>q.start.length-i) 0 rfl (by decide) rfl (fun _=>rfl) ⟨by omega,by simp⟩ ⟨⟨_,rfl,rfl⟩,trivial⟩ ?_
 conv=>whnf
 refine⟨rfl,?_⟩
 rintro i ⟨hi,hall⟩
 conv=>whnf
 refine⟨fun h7=>?_,fun h7=>?_⟩
 ·have hi':i<q.start.length:=by simpa using h7
  conv=>whnf
  refine .mk (by simp only[Rw.rng] at *; omega) ?_
  conv=>whnf
  refine ah.pure (S.slices_Contains_int p.initial (q.start.getD i 0) false (by omega)) rfl ?_
  conv=>whnf
  refine⟨fun h8=>?_,fun h8=>?_⟩
  ·conv=>whnf
   exact ak.int (by rw[jy,h1,h2,h3,h45,h6,iV (d:=0) hi' h8]; rfl)
  ·conv=>whnf
   refine .mk (by simp only[okI] at *; omega) ?_
   conv=>whnf
   refine⟨i+1,⟨by omega,?_⟩,by omega,⟨⟨_,rfl,rfl⟩,trivial⟩,?_,rfl⟩
   ·rw[kP (d:=0) hi' hall]; exact h8
   ·repeat' (first|exact trivial|exact⟨_,rfl,rfl⟩|constructor)
 have hi':q.start.length<=i:=by simpa using h7
 rw[List.take_of_length_le hi'] at hall
 conv=>whnf
 refine⟨fun h8=>?_,fun h8=>?_⟩
 ·conv=>whnf
  refine ah.pure (S.eG q.goal p.states.length false (by omega)) rfl ?_
  conv=>whnf
  refine ah.pure (S.dh ((q.goal.length:Int)==0) 1) rfl ?_
  conv=>whnf
  refine ah.pure (S.bY [jA q.goal p.states.length,fF ((q.goal.length:Int)==0) 1] true (show 2<2^40 by decide)) rfl ?_
  conv=>whnf
  exact ak.int (by rw[jy,h1,h2,h3,h45,h6,hall,h8]; rfl)
 conv=>whnf
 repeat(refine VC.mk id ?_; conv=>whnf)
 refine ah.pure (S.dh (((q.bad.length:Int)==0)&&((q.adjacent.length:Int)==0)) 1) rfl ?_
 conv=>whnf
 refine ah.pure (S.dh (decide ((q.bad.length:Int)>3)) 4) rfl ?_
 conv=>whnf
 refine ah.pure (S.mP q.bad p.states.length false q2 hq.cnt) rfl ?_
 conv=>whnf
 refine ah.pure (S.kQ p q.adjacent false q3) rfl ?_
 conv=>whnf
 refine ah.pure (S.bY [fF (((q.bad.length:Int)==0)&&((q.adjacent.length:Int)==0)) 1,fF (decide ((q.bad.length:Int)>3)) 4,xR q.bad p.states.length,I4 p q.adjacent] true (show 4<2^40 by decide)) rfl ?_
 conv=>whnf
 exact ak.int (by rw[jy,h1,h2,h3,h45,h6,hall,h8]; rfl)
theorem S.FU(l:List Int)(s:Int)(f:Bool)(hl:l.length<2^40):aj Tryz.prog 114 [.row 0 f (.ints l),.int s] (.bool (Ei l s)):=by
 refine aj.of Bd.FU (by simp) rfl rfl ?_
 conv=>whnf
 refine aB.same [0,1] (fun i:Nat=>[(5,.int i)]) (fun i=>i<=l.length/\(l.take i).any (fun x=>s==x)=false) (fun i=>l.length-i) 0 rfl (by decide) rfl (fun _=>rfl) ⟨by omega,by simp⟩ ⟨⟨_,rfl,rfl⟩,trivial⟩ ?_
 conv=>whnf
 refine⟨rfl,?_⟩
 rintro i ⟨hi,hall⟩
 conv=>whnf
 refine⟨fun h3=>?_,fun h3=>?_⟩
 ·have hi':i<l.length:=by simpa using h3
  conv=>whnf
  refine .mk (by simp only[Rw.rng] at *; omega) ?_
  conv=>whnf
  refine⟨fun h4=>?_,fun h4=>?_⟩
  ·have h4':(s==l.getD i 0)=true:=by rw[show(s==l.getD i 0)=(l.getD i 0==s) from Bool.beq_comm]; exact h4
   conv=>whnf
   exact ak.bool (iV (d:=0) hi' h4')
  ·have h4':(s==l.getD i 0)=false:=by rw[show(s==l.getD i 0)=(l.getD i 0==s) from Bool.beq_comm]; exact h4
   conv=>whnf
   refine .mk (by simp only[okI] at *; omega) ?_
   conv=>whnf
   refine⟨i+1,⟨by omega,?_⟩,by omega,⟨⟨_,rfl,rfl⟩,trivial⟩,?_,rfl⟩
   ·rw[kP (d:=0) hi' hall]; exact h4'
   ·repeat' (first|exact trivial|exact⟨_,rfl,rfl⟩|constructor)
 ·have hi':l.length<=i:=by simpa using h3
  rw[List.take_of_length_le hi'] at hall
  conv=>whnf
  exact ak.bool hall
theorem acZ{p:aC}{l:List Int}(h1:(decide ((l.length:Int)>0)&&(p.topology==1))=false)(h2:((l.length:Int) !=0&&(l.length:Int) !=2)=false):I4 p l=bif l.any (fun x=>pW x p.states.length) then 5 else 0:=by
 unfold I4
 rcases l with _|⟨a,_|⟨b,_|⟨c,r⟩⟩⟩
 ·rfl
 ·simp at h2
 ·have ht:(p.topology==1)=false:=by simpa using h1
  rw[ht]
  simp only[List.length_cons,List.length_nil,List.getD_cons_zero,List.getD_cons_succ,List.any_cons,List.any_nil,Bool.or_false,dH]
  cases pW a p.states.length<;>cases pW b p.states.length<;>rfl
 ·simp at h2; omega
theorem U4{c:Cnt}:y9 c=((c.states.length:Int)==0|| !(iM c.least 1 3)):=by
 rw[y9,oU,Bool.or_assoc]
theorem S.gZ(p:aC)(q:Prop')(hp:dJ p)(hq:gG q):aj Tryz.prog 81 [.dat (.gW p),.dat (.prop q)] (.int (jy p q)):=by
 have g1:=hp.states; have g5:=hp.initial
 have q1:=hq.start; have q2:=hq.bad; have q3:=hq.adjacent; have q4:=hq.goal
 refine aj.of Bd.gZ (by simp) rfl rfl ?_
 conv=>whnf
 refine ah.pure (S.oV p hp) rfl ?_
 conv=>whnf
 refine⟨fun h1=>?_,fun h1=>?_⟩
 ·conv=>whnf
  exact ak.int (by rw[jy,h1]; rfl)
 conv=>whnf
 refine ah.pure (S.jE q.name) rfl ?_
 conv=>whnf
 refine⟨fun h2=>?_,fun h2=>?_⟩
 ·conv=>whnf
  exact ak.int (by rw[jy,h1,h2]; rfl)
 conv=>whnf
 repeat(refine VC.mk id ?_; conv=>whnf)
 refine⟨fun h3=>?_,fun h3=>?_⟩
 ·replace h3:(!(q.kind==1)&&q.kind !=2)=true:=h3
  conv=>whnf
  exact ak.int (by rw[jy,h1,h2,h3]; rfl)
 replace h3:(!(q.kind==1)&&q.kind !=2)=false:=h3
 have k2:(q.kind==2)= !(q.kind==1):=by
  cases e:(q.kind==1) with
  |true=>rw[beq_iff_eq.1 e]; rfl
  |false=>rw[e] at h3; simpa using h3
 conv=>whnf
 repeat(refine VC.mk (by first|exact id|(intro h; rw[h]; rfl)|(intro h; simp_all; done)) ?_; conv=>whnf)
 refine⟨fun h4=>?_,fun h4=>?_⟩
 ·rw[k2] at h4
  conv=>whnf
  exact ak.int (by rw[jy,h1,h2,h3,show vH q=true from h4]; rfl)
 rw[k2] at h4
 replace h4:vH q=false:=h4
 conv=>whnf
 refine ah.pure (S.iZ q.start p.states.length false (by omega) (by omega)) rfl ?_
 conv=>whnf
 refine⟨fun h6=>?_,fun h6=>?_⟩
 ·conv=>whnf
  exact ak.int (by rw[jy,h1,h2,h3,h4,h6]; rfl)
 conv=>whnf
 refine aB.same [2,3,6] (fun i:Nat=>[(8,.int i)]) (fun i=>i<=q.start.length/\(q.start.take i).any (fun x=> !(Ei p.initial x))=false) (fun i=>q.start.length-i) 0 rfl (by decide) rfl (fun _=>rfl) ⟨by omega,by simp⟩ ⟨⟨_,rfl,rfl⟩,trivial⟩ ?_
 conv=>whnf
 refine⟨rfl,?_⟩
 rintro i ⟨hi,hall⟩
 conv=>whnf
 refine⟨fun h7=>?_,fun h7=>?_⟩
 ·have hi':i<q.start.length:=by simpa using h7
  conv=>whnf
  refine .mk (by simp only[Rw.rng] at *; omega) ?_
  conv=>whnf
  refine ah.pure (S.FU p.initial (q.start.getD i 0) false (by omega)) rfl ?_
  conv=>whnf
  refine⟨fun h8=>?_,fun h8=>?_⟩
  ·conv=>whnf
   exact ak.int (by rw[jy,h1,h2,h3,h4,h6,iV (d:=0) hi' h8]; rfl)
  ·conv=>whnf
   refine .mk (by simp only[okI] at *; omega) ?_
   conv=>whnf
   refine⟨i+1,⟨by omega,?_⟩,by omega,⟨⟨_,rfl,rfl⟩,trivial⟩,?_,rfl⟩
   ·rw[kP (d:=0) hi' hall]; exact h8
   ·repeat' (first|exact trivial|exact⟨_,rfl,rfl⟩|constructor)
 have hi':q.start.length<=i:=by simpa using h7
 rw[List.take_of_length_le hi'] at hall
 clear h7 hi'
 conv=>whnf
 refine⟨fun h8=>?_,fun h8=>?_⟩
 ·have h8':(!(q.kind==1))=true:=by rw[<- k2]; exact h8
  have hS:jy p q=bF [jA q.goal p.states.length,fF ((q.goal.length:Int)==0) 1]:=by rw[jy,h1,h2,h3,h4,h6,hall,h8']; rfl
  rw[hS]
  conv=>whnf
  refine ah.pure (S.iZ q.goal p.states.length false (by omega) (by omega)) rfl ?_
  conv=>whnf
  refine⟨fun h9=>?_,fun h9=>?_⟩
  ·conv=>whnf
   exact ak.int (fN (nz h9))
  rw[show jA q.goal p.states.length=0 from Kv h9,f0]
  conv=>whnf
  refine⟨fun h10=>?_,fun h10=>?_⟩
  ·conv=>whnf
   exact ak.int (by rw[h10]; rfl)
  ·conv=>whnf
   exact ak.int (by rw[h10]; rfl)
 have h8':(!(q.kind==1))=false:=by rw[<- k2]; exact h8
 have hS:jy p q=bF [fF (((q.bad.length:Int)==0)&&((q.adjacent.length:Int)==0)) 1,fF (decide ((q.bad.length:Int)>3)) 4,xR q.bad p.states.length,I4 p q.adjacent]:=by rw[jy,h1,h2,h3,h4,h6,hall,h8']; rfl
 rw[hS]
 conv=>whnf
 repeat(refine VC.mk id ?_; conv=>whnf)
 refine⟨fun h9=>?_,fun h9=>?_⟩
 ·conv=>whnf
  exact ak.int (by rw[h9]; rfl)
 rw[h9,WW]
 conv=>whnf
 refine⟨fun h10=>?_,fun h10=>?_⟩
 ·conv=>whnf
  exact ak.int (by rw[show decide ((q.bad.length:Int)>3)=true from h10]; rfl)
 rw[show decide ((q.bad.length:Int)>3)=false from h10,WW]
 conv=>whnf
 refine aB.same [2,3,6] (fun i:Nat=>[(10,.int i)]) (fun i=>i<=q.bad.length/\xR q.bad p.states.length=bF ((q.bad.drop i).map (Ph p.states.length))) (fun i=>q.bad.length-i) 0 rfl (by decide) rfl (fun _=>rfl) ⟨by omega,by simp[xR]⟩ ⟨⟨_,rfl,rfl⟩,trivial⟩ ?_
 conv=>whnf
 refine⟨rfl,?_⟩
 rintro j ⟨hj,hcnt⟩
 conv=>whnf
 refine⟨fun h11=>?_,fun h11=>?_⟩
 ·have hj':j<q.bad.length:=by simpa using h11
  rw[dU default hj',List.map_cons] at hcnt
  simp only[bF] at hcnt
  have hc:=hq.cnt j
  conv=>whnf
  refine .mk (by simp only[Rw.rng] at *; omega) ?_
  conv=>whnf
  refine ah.pure (S.iZ (q.bad.getD j default).states p.states.length false (by omega) (by omega)) rfl ?_
  conv=>whnf
  refine⟨fun h12=>?_,fun h12=>?_⟩
  ·conv=>whnf
   have e1:Ph p.states.length (q.bad.getD j default)=jA (q.bad.getD j default).states p.states.length:=fN (nz h12)
   rw[e1,if_neg (nz h12)] at hcnt
   exact ak.int (by rw[hcnt,fN (nz h12)])
  have aaY:jA (q.bad.getD j default).states p.states.length=0:=Kv h12
  have e1:Ph p.states.length (q.bad.getD j default)=bF [fF (y9 (q.bad.getD j default)) 1]:=by rw[Ph,aaY,f0]
  rw[e1,U4] at hcnt
  conv=>whnf
  repeat(refine VC.mk (by first|exact id|(intro h; (repeat' apply And.intro)<;>first|exact h|omega|(simp only[Rw.nO]; omega)|(simp only[Rw.rng]; omega))|(simp only[Rw.rng] at *; omega)) ?_; conv=>whnf)
  refine ah.dL (fun _=>S.bg (q.bad.getD j default).least 1 3) rfl ?_
  conv=>whnf
  repeat(refine VC.mk (by first|exact id|(intro h; rw[h]; rfl)) ?_; conv=>whnf)
  refine⟨fun h13=>?_,fun h13=>?_⟩
  ·replace h13:(((q.bad.getD j default).states.length:Int)==0|| !(iM (q.bad.getD j default).least 1 3))=true:=h13
   rw[h13] at hcnt
   conv=>whnf
   exact ak.int (by rw[hcnt]; rfl)
  ·replace h13:(((q.bad.getD j default).states.length:Int)==0|| !(iM (q.bad.getD j default).least 1 3))=false:=h13
   rw[h13] at hcnt
   conv=>whnf
   refine .mk (by simp only[okI] at *; omega) ?_
   conv=>whnf
   refine⟨j+1,⟨by omega,hcnt⟩,by omega,⟨⟨_,rfl,rfl⟩,trivial⟩,?_,rfl⟩
   repeat' (first|exact trivial|exact⟨_,rfl,rfl⟩|constructor)
 have hj':q.bad.length<=j:=by simpa using h11
 rw[List.drop_eq_nil_of_le hj'] at hcnt
 rw[hcnt,show bF (List.map (Ph p.states.length) [])=0 from rfl,f0]
 conv=>whnf
 repeat(refine VC.mk id ?_; conv=>whnf)
 refine⟨fun h12=>?_,fun h12=>?_⟩
 ·replace h12:(decide ((q.adjacent.length:Int)>0)&&(p.topology==1))=true:=h12
  conv=>whnf
  rw[Bool.and_eq_true] at h12
  have:((q.adjacent.length:Int)==0)=false:=beq_eq_false_iff_ne.2 (by have:=of_decide_eq_true h12.1; omega)
  exact ak.int (by rw[I4,this,h12.2]; rfl)
 replace h12:(decide ((q.adjacent.length:Int)>0)&&(p.topology==1))=false:=h12
 conv=>whnf
 repeat(refine VC.mk id ?_; conv=>whnf)
 refine⟨fun h13=>?_,fun h13=>?_⟩
 ·replace h13:((q.adjacent.length:Int) !=0&&(q.adjacent.length:Int) !=2)=true:=h13
  conv=>whnf
  rw[Bool.and_eq_true] at h13
  have e0:((q.adjacent.length:Int)==0)=false:=by simpa using h13.1
  have e1:(p.topology==1)=false:=by
   rw[Bool.and_eq_false_iff] at h12
   rcases h12 with h12|h12
   ·have:=of_decide_eq_false h12
    have:(q.adjacent.length:Int)≠0:=by simpa using e0
    omega
   ·exact h12
  exact ak.int (by rw[I4,e0,e1,h13.2]; rfl)
 replace h13:((q.adjacent.length:Int) !=0&&(q.adjacent.length:Int) !=2)=false:=h13
 rw[acZ h12 h13]
 conv=>whnf
 refine aB.same [2,3,6] (fun i:Nat=>[(12,.int i)]) (fun i=>i<=q.adjacent.length/\(q.adjacent.take i).any (fun x=>pW x p.states.length)=false) (fun i=>q.adjacent.length-i) 0 rfl (by decide) rfl (fun _=>rfl) ⟨by omega,by simp⟩ ⟨⟨_,rfl,rfl⟩,trivial⟩ ?_
 conv=>whnf
 refine⟨rfl,?_⟩
 rintro k ⟨hk,ae6⟩
 conv=>whnf
 refine⟨fun h14=>?_,fun h14=>?_⟩
 ·have hk':k<q.adjacent.length:=by simpa using h14
  conv=>whnf
  repeat(refine VC.mk (by simp only[okI,Rw.rng] at *; omega) ?_; conv=>whnf)
  refine ah.pure (S.bg (q.adjacent.getD k 0) 0 (p.states.length-1)) rfl ?_
  conv=>whnf
  refine⟨fun h15=>?_,fun h15=>?_⟩
  ·replace h15:(!(iM (q.adjacent.getD k 0) 0 (p.states.length-1)))=true:=h15
   rw[wS] at h15
   conv=>whnf
   exact ak.int (by rw[iV (d:=0) hk' h15]; rfl)
  ·replace h15:(!(iM (q.adjacent.getD k 0) 0 (p.states.length-1)))=false:=h15
   rw[wS] at h15
   conv=>whnf
   refine .mk (by simp only[okI] at *; omega) ?_
   conv=>whnf
   refine⟨k+1,⟨by omega,?_⟩,by omega,⟨⟨_,rfl,rfl⟩,trivial⟩,?_,rfl⟩
   ·rw[kP (d:=0) hk' ae6]; exact h15
   ·repeat' (first|exact trivial|exact⟨_,rfl,rfl⟩|constructor)
 have hk':q.adjacent.length<=k:=by simpa using h14
 rw[List.take_of_length_le hk'] at ae6
 conv=>whnf
 exact ak.int (by rw[ae6]; rfl)
theorem ak.agI{h:Hz}{j:Nat}{l:List Int}(q:h.get j=some (mg l)):ak (.row 0 false (.ints l)) (.own j) h:=⟨D5 trivial q⟩
theorem ak.yw{h:Hz}{k k':Nat}{r:Rw}(e:r.len=0):ak (.row k false r) (.row k' true .nil) h:=⟨by
 have:r.aS=[]:=List.eq_nil_of_length_eq_zero (by rw[Rw.dX]; exact e)
 show T.sub (fun _=>True) h.au (.sl k false r.aS) (.sl k' true [])
 rw[this]; simp[T.sub]⟩
theorem S.NK(l:List Int)(f:Bool)(hl:l.length<2^30):aj Tryz.prog 92 [.row 0 f (.ints l)] (.row 0 false (.ints l)):=by
 refine aj.of Bd.ku (by simp) rfl rfl ?_
 conv=>whnf
 refine ZR.mk (fun hz=>?_) ?_
 ·conv=>whnf
  refine Fork.mk (fun _=>?_) (fun q=>absurd (q.symm.trans ((rfl:true=true))) Bool.false_ne_true)
  conv=>whnf
  exact ak.yw hz
 ·conv=>whnf
  refine Fork.mk (fun q=>absurd (q.symm.trans ((rfl:false=false))).symm Bool.false_ne_true) (fun _=>?_)
  conv=>whnf
  refine .mk (by simp only[nY,o9,Rw.len]; omega) ?_
  conv=>whnf
  repeat(refine VC.mk (by simp only[nY,o9,Rw.len]; omega) ?_; conv=>whnf)
  exact ak.agI rfl
theorem S.oW(l:List Int)(f:Bool)(hl:l.length<2^30):aj Tryz.prog 146 [.row 0 f (.ints l)] (.row 0 false (.ints l)):=by
 refine aj.of Bd.oW (by simp) rfl rfl ?_
 conv=>whnf
 refine .mk (by simp only[nY,o9,Rw.len]; omega) ?_
 conv=>whnf
 exact ak.agI rfl
def ng(p:aC)(q:Prop'):List Int:=bif decide ((q.start.length:Int)>0) then q.start else p.initial
theorem zU{p:aC}{q:Prop'}(h:jy p q=0):dw p=0:=by
 unfold jy at h
 obtain⟨h1,_⟩:=bz nz h
 exact Kv h1
theorem S.mG(p:aC)(q:Prop')(hp:dJ p)(hq:gG q)(hv:jy p q=0):aj Tryz.prog 75 [.dat (.gW p),.dat (.prop q)] (.fZ [.row 0 false (.ints (ng p q)),.int 0]):=by
 have g5:=hp.initial; have q1:=hq.start
 refine aj.of Bd.mG (by simp) rfl rfl ?_
 conv=>whnf
 refine ah.pure (S.eu p q hp hq) rfl ?_
 conv=>whnf
 refine Fork.mk (fun q=>absurd (q.symm.trans ((by simp[hv]))).symm Bool.false_ne_true) (fun _=>?_)
 conv=>whnf
 refine⟨fun h2=>?_,fun h2=>?_⟩
 ·conv=>whnf
  refine ah.pure (S.NK q.start false q1) rfl ?_
  conv=>whnf
  exact ak.eqv (by rw[ng,show decide ((q.start.length:Int)>0)=true from h2]; rfl)
 ·conv=>whnf
  refine ah.pure (S.NK p.initial false g5) rfl ?_
  conv=>whnf
  exact ak.eqv (by rw[ng,show decide ((q.start.length:Int)>0)=false from h2]; rfl)
theorem S.mQ(p:aC)(q:Prop')(hp:dJ p)(hq:gG q):aj Tryz.prog 117 [.dat (.gW p),.dat (.prop q)] (.row 0 false (.ints (ng p q))):=by
 have g5:=hp.initial; have q1:=hq.start
 refine aj.of Bd.mQ (by simp) rfl rfl ?_
 conv=>whnf
 refine⟨fun h2=>?_,fun h2=>?_⟩
 ·conv=>whnf
  refine ah.pure (S.oW q.start false q1) rfl ?_
  conv=>whnf
  exact ak.eqv (by rw[ng,show decide ((q.start.length:Int)>0)=true from h2]; rfl)
 ·conv=>whnf
  refine ah.pure (S.oW p.initial false g5) rfl ?_
  conv=>whnf
  exact ak.eqv (by rw[ng,show decide ((q.start.length:Int)>0)=false from h2]; rfl)
theorem S.wJ(p:aC)(q:Prop')(hp:dJ p)(hq:gG q)(hv:jy p q=0):aj Tryz.prog 83 [.dat (.gW p),.dat (.prop q)] (.fZ [.row 0 false (.ints (ng p q)),.int 0]):=by
 refine aj.of Bd.wJ (by simp) rfl rfl ?_
 conv=>whnf
 refine ah.pure (S.gZ p q hp hq) rfl ?_
 conv=>whnf
 refine Fork.mk (fun q=>absurd (q.symm.trans ((by simp[hv]))).symm Bool.false_ne_true) (fun _=>?_)
 conv=>whnf
 refine ah.pure (S.mQ p q hp hq) rfl ?_
 conv=>whnf
 exact ak.eqv rfl
theorem Na{p:aC}{q:Prop'}(hp:dJ p)(hq:gG q):(ng p q).length<2^30:=by
 unfold ng
 cases decide ((q.start.length:Int)>0)
 ·exact hp.initial
 ·exact hq.start
end Go.Proofs.YtajmbgljnaljiaaGreatDoor
