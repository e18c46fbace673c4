/-
 A part of the proof. No condition.
-/
import Derived.Test.YtkomllaebngbfaaGreatDoorRb
import Derived.Test.YtkomllaebngbfaaGreatDoorLg
import Derived.Test.YtkomllaebngbfaaGreatDoorKa
namespace Go.Proofs.YtkomllaebngbfaaGreatDoor
open Go.Ab Go.Proofs
set_option maxRecDepth 100000
def AU(s:Int):List Int->Nat->Int
 |[],_=> -1
 |x::r,i=>bif s==x then(i:Int) else AU s r (i+1)
theorem TP{s:Int}{l:List Int}:decide (0<=AU s l 0)=l.any fun x=>s==x:=by
 have: ∀ {l:List Int} {i:Nat},0<=AU s l i↔(l.any fun x=>s==x)=true:=by
  intro l
  induction l with
  |nil=>intro i; simp[AU]
  |cons x r ih =>
   intro i
   rw[List.any_cons,Bool.or_eq_true,<- ih (i:=i+1)]
   show(0:Int)<=(bif s==x then(i:Int) else AU s r (i+1))↔_
   generalize (s==x)=b
   cases b<;>simp
 rw[Bool.eq_iff_iff,decide_eq_true_eq]; exact this
theorem S.slices_Index_int(l:List Int)(s:Int)(f:Bool)(hl:l.length<2^40):aj Tryz.prog 159 [.row 0 f (.ints l),.int s] (.int (AU s l 0)):=by
 refine aj.of Bd.iD (by simp) rfl rfl ?_
 conv=>whnf
 refine aX.same [0,1,6,7] (fun i:Nat=>[(8,.int i)]) (fun i=>i<=l.length/\AU s l 0=AU s (l.drop i) i) (fun i=>l.length-i) 0 rfl (by decide) rfl (fun _=>rfl) ⟨by omega,by simp⟩ ⟨⟨_,rfl,rfl⟩,trivial⟩ ?_
 conv=>whnf
 refine⟨rfl,?_⟩
 rintro i ⟨hi,hall⟩
 conv=>whnf
 refine⟨fun h3=>?_,fun h3=>?_⟩
 ·have hi':i<l.length:=by simpa using h3
  rw[dM 0 hi'] at hall
  simp only[AU] at hall
  conv=>whnf
  refine .mk (by simp only[Rw.rng] at *; first|omega|(simp_all; done)|(simp_all; omega)) ?_
  conv=>whnf
  refine⟨fun h4=>?_,fun h4=>?_⟩
  ·conv=>whnf
   refine ak.int ?_
   have h4':(s==l.getD i 0)=true:=h4
   rw[hall,h4']; rfl
  ·conv=>whnf
   refine .mk (by simp only[okI] at *; first|omega|(simp_all; done)|(simp_all; omega)) ?_
   conv=>whnf
   refine⟨i+1,⟨by omega,?_⟩,by omega,⟨⟨_,rfl,rfl⟩,trivial⟩,?_,rfl⟩
   ·have h4':(s==l.getD i 0)=false:=h4
    rw[hall,h4']; rfl
   ·repeat' (first|exact trivial|exact⟨_,rfl,rfl⟩|constructor)
 ·conv=>whnf
  refine ak.int ?_
  have hi':l.length<=i:=by simpa using h3
  rw[hall,List.drop_eq_nil_of_le hi']; rfl
def Hf(l:List Int)(s:Int):Bool:=l.any fun x=>s==x
theorem S.slices_Contains_int(l:List Int)(s:Int)(f:Bool)(hl:l.length<2^40):aj Tryz.prog 118 [.row 0 f (.ints l),.int s] (.bool (Hf l s)):=by
 refine aj.of Bd.fF (by simp) rfl rfl ?_
 conv=>whnf
 refine ah.pure (S.slices_Index_int l s f hl) rfl ?_
 conv=>whnf
 exact ak.bool TP.symm
theorem S.zU(l:List Int)(s:Int)(f:Bool)(hl:l.length<2^40):aj Tryz.prog 140 [.row 0 f (.ints l),.int s] (.bool (Hf l s)):=by
 refine aj.of Bd.zU (by simp) rfl rfl ?_
 conv=>whnf
 refine aX.same [0,1] (fun i:Nat=>[(5,.int i)]) (fun i=>i<=l.length/\(l.take i).any (fun x=>s==x)=false) (fun i=>l.length-i) 0 rfl (by decide) rfl (fun _=>rfl) ⟨by omega,by simp⟩ ⟨⟨_,rfl,rfl⟩,trivial⟩ ?_
 conv=>whnf
 refine⟨rfl,?_⟩
 rintro i ⟨hi,hall⟩
 conv=>whnf
 refine⟨fun h3=>?_,fun h3=>?_⟩
 ·have hi':i<l.length:=by simpa using h3
  conv=>whnf
  refine .mk (by simp only[Rw.rng] at *; first|omega|(simp_all; done)|(simp_all; omega)) ?_
  conv=>whnf
  refine⟨fun h4=>?_,fun h4=>?_⟩
  ·have h4':(s==l.getD i 0)=true:=by rw[show(s==l.getD i 0)=(l.getD i 0==s) from Bool.beq_comm]; exact h4
   conv=>whnf
   exact ak.bool (iY (d:=0) hi' h4')
  ·have h4':(s==l.getD i 0)=false:=by rw[show(s==l.getD i 0)=(l.getD i 0==s) from Bool.beq_comm]; exact h4
   conv=>whnf
   refine .mk (by simp only[okI] at *; first|omega|(simp_all; done)|(simp_all; omega)) ?_
   conv=>whnf
   refine⟨i+1,⟨by omega,?_⟩,by omega,⟨⟨_,rfl,rfl⟩,trivial⟩,?_,rfl⟩
   ·rw[kL (d:=0) hi' hall]; exact h4'
   ·repeat' (first|exact trivial|exact⟨_,rfl,rfl⟩|constructor)
 ·have hi':l.length<=i:=by simpa using h3
  rw[List.take_of_length_le hi'] at hall
  conv=>whnf
  exact ak.bool hall
def AV(c l:List Int):Bool:=l.any fun q=>decide (c.getD q.toNat 0>0)
def pJ(n:Nat)(l:List Int):Prop:= ∀ q∈l,0<=q/\q<n
theorem S.sJ(c l:List Int)(f g:Bool)(_hc:c.length<2^40)(hl:l.length<2^40)(hp:pJ c.length l):aj Tryz.prog 93 [.row 0 f (.ints c),.row 0 g (.ints l)] (.bool (AV c l)):=by
 refine aj.of Bd.sJ (by simp) rfl rfl ?_
 conv=>whnf
 refine aX.same [0,1] (fun i:Nat=>[(5,.int i)]) (fun i=>i<=l.length/\(l.take i).any (fun q=>decide (c.getD q.toNat 0>0))=false) (fun i=>l.length-i) 0 rfl (by decide) rfl (fun _=>rfl) ⟨by omega,by simp⟩ ⟨⟨_,rfl,rfl⟩,trivial⟩ ?_
 conv=>whnf
 refine⟨rfl,?_⟩
 rintro i ⟨hi,hall⟩
 conv=>whnf
 refine⟨fun h3=>?_,fun h3=>?_⟩
 ·have hi':i<l.length:=by simpa using h3
  have hq:0<=l.getD i 0/\l.getD i 0<c.length:=by
   rw[show l.getD i 0=l[i] by simp[hi']]; exact hp _ (List.getElem_mem hi')
  conv=>whnf
  repeat(refine VC.mk (by simp only[Rw.rng] at *; first|omega|(simp_all; done)|(simp_all; omega)) ?_; conv=>whnf)
  refine⟨fun h4=>?_,fun h4=>?_⟩
  ·conv=>whnf
   exact ak.bool (iY (d:=0) hi' h4)
  ·conv=>whnf
   refine .mk (by simp only[okI] at *; first|omega|(simp_all; done)|(simp_all; omega)) ?_
   conv=>whnf
   refine⟨i+1,⟨by omega,?_⟩,by omega,⟨⟨_,rfl,rfl⟩,trivial⟩,?_,rfl⟩
   ·rw[kL (d:=0) hi' hall]; exact h4
   ·repeat' (first|exact trivial|exact⟨_,rfl,rfl⟩|constructor)
 ·have hi':l.length<=i:=by simpa using h3
  rw[List.take_of_length_le hi'] at hall
  conv=>whnf
  exact ak.bool hall
def QY(c l:List Int):Bool:=(List.range c.length).any fun i=>decide (c.getD i 0>0)&& !(Hf l i)
theorem S.mD(c l:List Int)(f g:Bool)(hc:c.length<2^40)(hl:l.length<2^40):aj Tryz.prog 94 [.row 0 f (.ints c),.row 0 g (.ints l)] (.bool (QY c l)):=by
 refine aj.of Bd.mD (by simp) rfl rfl ?_
 conv=>whnf
 refine aX.same [0,1] (fun i:Nat=>[(5,.int i)]) (fun i=>i<=c.length/\(List.range i).any (fun i=>decide (c.getD i 0>0)&& !(Hf l i))=false) (fun i=>c.length-i) 0 rfl (by decide) rfl (fun _=>rfl) ⟨by omega,by simp⟩ ⟨⟨_,rfl,rfl⟩,trivial⟩ ?_
 conv=>whnf
 refine⟨rfl,?_⟩
 rintro i ⟨hi,hall⟩
 conv=>whnf
 refine⟨fun h3=>?_,fun h3=>?_⟩
 ·have hi':i<c.length:=by simpa using h3
  conv=>whnf
  repeat(refine VC.mk (by first|exact fun h=>⟨h,h⟩|(simp only[Rw.rng] at *; first|omega|(simp_all; done)|(simp_all; omega))) ?_; conv=>whnf)
  refine ah.eY (fun _=>S.zU l i g hl) rfl ?_
  conv=>whnf
  repeat(refine VC.mk id ?_; conv=>whnf)
  refine⟨fun h4=>?_,fun h4=>?_⟩
  ·conv=>whnf
   exact ak.bool (yR.2 ⟨i,hi',h4⟩)
  ·conv=>whnf
   refine .mk (by simp only[okI] at *; first|omega|(simp_all; done)|(simp_all; omega)) ?_
   conv=>whnf
   refine⟨i+1,⟨by omega,?_⟩,by omega,⟨⟨_,rfl,rfl⟩,trivial⟩,?_,rfl⟩
   ·rw[List.range_succ,List.any_append,hall]
    simp only[List.any_cons,List.any_nil,Bool.or_false,Bool.false_or]; exact h4
   ·repeat' (first|exact trivial|exact⟨_,rfl,rfl⟩|constructor)
 ·have hi':c.length<=i:=by simpa using h3
  have e:i=c.length:=Nat.le_antisymm hi hi'
  subst e
  conv=>whnf
  exact ak.bool hall
def Jq(ex c:List Int)(i:Nat):Bool:=((ex.length:Int)==0)||(List.range i).any fun j=> !(c.getD j 0==0)&&Hf ex j
def Oc(al c:List Int)(i:Nat):Bool:=(List.range i).any fun j=> !(c.getD j 0==0)&&(decide ((al.length:Int)>0)&& !(Hf al j))
def Jp(r:Rule)(c:List Int):Bool:= !(Oc r.all c c.length)&&Jq r.ex c c.length
structure NW(n:Nat)(r:Rule):Prop where
 src:0<=r.fr/\r.fr<n
 dst:0<=r.to/\r.to<n
 TA:0<=r.ig/\r.ig<n
 TB:0<=r.zB/\r.zB<n
 rsp:r.kind=3->r.response.length=n/\pJ n r.response
 exs:pJ n r.ex
def TF(c:List Int):Prop:= ∀ x∈c,0<=x/\x<=1048576
def kM(c:List Int)(i d:Int):List Int:=c.set i.toNat (c.getD i.toNat 0+d)
def dn(c:List Int)(i:Int):List Int:=c.set i.toNat (c.getD i.toNat 0-1)
def qX(r:Rule)(c:List Int)(i:Nat):List Int:=(List.range i).foldl (fun a j=>kM a (r.response.getD j 0) (c.getD j 0)) (List.replicate c.length 0)
def kN(r:Rule)(e:Elem):Option Elem :=
 let c1:=dn e.counts r.fr
 let out (c:List Int):Option Elem:=some ⟨bif decide (r.write>=0) then r.write else e.value,kM c r.to 1⟩
 bif (decide (0<=r.read)&&e.value !=r.read||e.counts.getD r.fr.toNat 0==0) then none else
 bif r.kind==1 then(bif !(Jp r c1) then none else out c1) else
 bif r.kind==2 then(bif c1.getD r.ig.toNat 0==0 then none else out (kM (dn c1 r.ig) r.zB 1)) else
 bif r.kind==3 then out (qX r c1 c1.length) else out c1
def nM(r:Rule)(e:Elem):V:=match kN r e with
 |none=>.iF [.agg [.int 0,.row 0 true .nil],.bool false]
 |some x=>.iF [.dat (.elem x),.bool true]
theorem Oe(r:Rule)(e:Elem):(nM r e).free=true:=by
 unfold nM; cases kN r e<;>rfl
def Lr(r:Rule)(e:Elem):V:=.iF [.dat (.elem ((kN r e).getD ⟨0,[]⟩)),.bool (kN r e).isSome]
theorem QZ{Z:Nat->Prop}{h:Hp}(r:Rule)(e:Elem):T.sub Z h (Lr r e).aG (nM r e).aG:=by
 unfold Lr nM
 cases kN r e with
 |none =>
  show T.sub Z h (.iF [.agg [.int 0,.sl 0 false []],.bool false]) (.iF [.agg [.int 0,.sl 0 true []],.bool false])
  simp[T.sub,T.eU]
 |some x=>exact fQ _
theorem aj.Lr{f:FuncId}{r:Rule}{e:Elem}(S:aj Tryz.prog f [.dat (.rule r),.dat (.elem e)] (nM r e)):aj Tryz.prog f [.dat (.rule r),.dat (.elem e)] (Lr r e) :=
 rE.shut S (fun _=>QZ r e) rfl
theorem TF.get{c:List Int}(h:TF c){i:Nat}(hi:i<c.length):0<=c.getD i 0/\c.getD i 0<=1048576:=by
 rw[show c.getD i 0=c[i] by simp[hi]]; exact h _ (List.getElem_mem hi)
theorem TQ{h:Hz}{j:Nat}{Z:Nat->Prop}{l:List Int}(hz:Z j)(q:h.get j=some (.row 3 0 (.ints l) [])):T.sub Z h.aI (V.row 0 false (.ints l)).aG (V.own j).aG:=by
 show T.sub Z h.aI (.sl 0 false (l.map T.int)) (.own j)
 simp only[T.sub]
 refine⟨trivial,hz,?_,by decide,3,?_⟩
 ·rw[jv]; intro t ht; obtain⟨x,_,rfl⟩:=List.mem_map.1 ht; rfl
 ·have:=cu q
  rw[this]; simp[OV.bJ,Rw.bQ,V.bQ]
def okB(b:Int)(c:List Int):Prop:= ∀ x∈c,-b<=x/\x<=b
theorem okB.get{b:Int}{c:List Int}(h:okB b c)(hb:0<=b)(i:Nat): -b<=c.getD i 0/\c.getD i 0<=b:=by
 by_cases hi:i<c.length
 ·rw[show c.getD i 0=c[i] by simp[hi]]; exact h _ (List.getElem_mem hi)
 ·rw[show c.getD i 0=0 by simp[List.getD_eq_getElem?_getD,List.getElem?_eq_none (by omega:c.length<=i)]]; omega
theorem okB.add{b k:Int}{c:List Int}(h:okB b c)(hb:0<=b)(i d:Int)(hd: -k<=d/\d<=k):okB (b+k) (kM c i d):=by
 intro x hx
 have hk:0<=k:=by omega
 rcases List.mem_or_eq_of_mem_set hx with hx|rfl
 ·have:=h x hx; omega
 ·have:=h.get hb i.toNat; omega
theorem okB.dec{b:Int}{c:List Int}(h:okB b c)(hb:0<=b)(i:Int):okB (b+1) (dn c i):=by
 have:=h.add hb i (-1) (k:=1) ⟨by omega,by omega⟩
 rw[show dn c i=kM c i (-1) by simp only[dn,kM]; rfl]; exact this
theorem TF.b{c:List Int}(h:TF c):okB 1048576 c:=fun x hx=>by have:=h x hx; omega
theorem ak.Ih{h:Hz}{j:Nat}{v:Int}{l:List Int}(q:h.get j=some (.row 3 0 (.ints l) [])):ak (.iF [.dat (.elem ⟨v,l⟩),.bool true]) (.iF [.agg [.int v,.own j],.bool true]) h:=⟨by
 show T.sub (fun _=>True) h.aI (.iF [.agg [.int v,.sl 0 false (l.map T.int)],.bool true]) (.iF [.agg [.int v,.own j],.bool true])
 have:=TQ (Z:=fun _=>True) trivial q
 replace this:T.sub (fun _=>True) h.aI (.sl 0 false (l.map T.int)) (.own j):=this
 simp only[T.sub] at this
 simp only[T.sub,T.eU]
 exact⟨⟨trivial,this,trivial⟩,trivial,trivial⟩⟩
theorem Ld{n:Nat}(h:0<n):(bif isZero (.int n) then some Rw.nil else WU (n:Int).toNat (T.int 0))=some (.ints (List.replicate n 0)):=by
 cases n with
 |zero=>omega
 |succ k=>rfl
theorem yQ{r:Rule}{c:List Int}{i:Nat}:qX r c (i+1)=kM (qX r c i) (r.response.getD i 0) (c.getD i 0):=by
 simp only[qX,List.range_succ,List.foldl_append,List.foldl_cons,List.foldl_nil]
theorem vg{r:Rule}{c:List Int}{i:Nat}:(qX r c i).length=c.length:=by
 induction i with
 |zero=>simp[qX]
 |succ i ih=>rw[yQ]; simp[kM,ih]
theorem Zj{r:Rule}{c:List Int}{b:Int}(h:okB b c)(hb:0<=b)(i:Nat):okB (i*b) (qX r c i):=by
 induction i with
 |zero=>intro x hx; simp[qX] at hx; omega
 |succ i ih =>
  rw[yQ]
  have h0:0<=(i:Int)*b:=Int.mul_nonneg (by omega) hb
  have:=ih.add h0 (r.response.getD i 0) (c.getD i 0) (k:=b) (h.get hb i)
  rw[show((i+1:Nat):Int)*b=i*b+b by rw[Int.natCast_add,Int.add_mul]; simp]; exact this
abbrev He(l:List Int):OV:=.row 3 0 (.ints l) []
theorem S.Q5(e:Elem)(he:e.counts.length<2^30)(n:Nat):bF Tryz.prog 92 (V.bQ [.dat (.elem e)]) (Hz.aI []) n (fun t hp=>t= .agg [.int e.value,.own n]/\hp=Hz.aI [(n,some (He e.counts))]):=by
 refine Ls.of (nx:=0) Bd.x9 (by simp) ⟨_,_,rfl,rfl⟩ rfl rfl ?_
 conv=>whnf
 refine .mk (by simp only[yc,xI,Rw.len]; omega) ?_
 conv=>whnf
 exact Eh.one (c:=n) (j:=7) (o:=He e.counts) (t:=.agg [.int e.value,.own n]) rfl rfl rfl nofun (.inr rfl) ⟨trivial,rfl,trivial⟩ (.eq rfl) ⟨rfl,rfl⟩
theorem S.Ic(e:Elem)(he:e.counts.length<2^30):rE Tryz.prog 92 [uj e] (fun n=>.agg [.int e.value,.own n]) (some ⟨3,0,e.counts.map T.int⟩):=by
 refine⟨by exact V.lT [.dat (.elem e)] rfl,fun n=>⟨trivial,rfl,trivial⟩,fun ob h=>?_,fun ob h=>?_,fun n=>?_⟩
 ·cases h
  show T.aT (e.counts.map T.int)=true
  rw[jv]; intro t ht; obtain⟨x,_,rfl⟩:=List.mem_map.1 ht; rfl
 ·cases h; exact show(0:Nat)≠dK by decide
 ·have:=S.Q5 e he n
  have e1:Hz.aI [(n,some (He e.counts))]=gI no n (some ⟨3,0,e.counts.map T.int⟩):=by
   rw[dI]; simp[gI,OV.bJ,Rw.bQ,V.bQ]; rfl
  rw[e1] at this
  exact this
theorem PO{h:Hz}{n:Nat}{l:List Int}:gI h.aI n (some ⟨3,0,l.map T.int⟩)=Hz.aI ((n,some (He l))::h):=by
 rw[dI]; simp[gI,OV.bJ,Rw.bQ,V.bQ]
theorem lt1{x:Int}(h:0<=x):decide (x<1)=(x==0):=by
 rw[Bool.eq_iff_iff]; simp; omega
theorem WV{l:List Int}{s:Int}:Hf l s=true↔s∈l:=by
 simp only[Hf,List.any_eq_true,beq_iff_eq]
 constructor
 ·rintro⟨x,h,rfl⟩; exact h
 ·intro h; exact⟨s,h,rfl⟩
theorem TR{al c:List Int}(hc: ∀ i,0<=c.getD i 0):Oc al c c.length=(decide (0<(al.length:Int))&&QY c al):=by
 rw[Bool.eq_iff_iff,Bool.and_eq_true]
 simp only[Oc,QY,yR,Bool.and_eq_true,decide_eq_true_eq,Bool.not_eq_true',beq_eq_false_iff_ne,ne_eq]
 constructor
 ·rintro⟨i,h1,h2,h3,h4⟩
  exact⟨h3,i,h1,by have:=hc i; omega,h4⟩
 ·rintro⟨h3,i,h1,h2,h4⟩
  exact⟨i,h1,by omega,h3,h4⟩
theorem found_eq{ex c:List Int}(hc: ∀ i,0<=c.getD i 0)(hx:pJ c.length ex):(!(Jq ex c c.length))=(decide (0<(ex.length:Int))&& !(AV c ex)):=by
 have h:Jq ex c c.length=(!(decide (0<(ex.length:Int)))||AV c ex):=by
  rw[Jq]
  congr 1
  ·rw[Bool.eq_iff_iff]; simp
  ·rw[Bool.eq_iff_iff]
   simp only[AV,List.mem_range,Bool.and_eq_true,decide_eq_true_eq,Bool.not_eq_true',beq_eq_false_iff_ne,ne_eq,List.any_eq_true,WV]
   constructor
   ·rintro⟨i,h1,h2,h3⟩
    exact⟨i,h3,by have:=hc i; simp only[Int.toNat_natCast]; omega⟩
   ·rintro⟨q,h1,h2⟩
    obtain⟨t1,t2⟩:=hx q h1
    have t3:q.toNat<c.length:=by omega
    have t4: ¬ c.getD q.toNat 0=0:=by omega
    exact⟨q.toNat,t3,t4,by rw[Int.toNat_of_nonneg t1]; exact h1⟩
 rw[h]; cases decide (0<(ex.length:Int))<;>cases AV c ex<;>rfl
theorem Lu{r:Rule}{c:List Int}(hc: ∀ i,0<=c.getD i 0)(hx:pJ c.length r.ex) :
  ((decide (0<(r.ex.length:Int))&& !(AV c r.ex))||(decide (0<(r.all.length:Int))&&QY c r.all))= !(Jp r c):=by
 rw[Jp,Bool.not_and,Bool.not_not,TR hc,found_eq hc hx,Bool.or_comm]
theorem PW{r:Rule}{e:Elem}(hc:TF e.counts)(h1:(decide (0<=r.read)&&e.value !=r.read||e.counts.getD r.fr.toNat 0==0)=false)(i:Nat):0<=(dn e.counts r.fr).getD i 0:=by
 have h0: ∀ j,0<=e.counts.getD j 0:=fun j=>by
  by_cases hj:j<e.counts.length
  ·exact(hc.get hj).1
  ·rw[show e.counts.getD j 0=0 by simp[List.getD_eq_getElem?_getD,List.getElem?_eq_none (by omega:e.counts.length<=j)]]; omega
 have h2:e.counts.getD r.fr.toNat 0≠0:=by
  rw[Bool.or_eq_false_iff] at h1
  have:=h1.2
  simpa using this
 have h3:=h0 r.fr.toNat
 have h4:=h0 i
 rw[dn,List.getD_eq_getElem?_getD,List.getElem?_set]
 split
 ·split
  ·simp only[Option.getD_some]; omega
  ·simp
 ·rw[<- List.getD_eq_getElem?_getD]; exact h4
theorem okF{ρ:Nat->Nat}{nx pn c n:Nat}{h:Hz}{s:List Nat}{o o':OV}(q1:Nat.blt c nx=true)(q2:Nat.blt c pn=true->n=c)(q3:EY n s=true)(q4:(o.good nx&&o.WW)=true)(q5:h.get n=some o')
  (q6:o'.bJ.ty=o.bJ.ty/\o'.bJ.k=o.bJ.k) (q7:o.bJ.l=o'.bJ.l):Nat.blt c nx=true/\(Nat.blt c pn=true->n=c)/\EY n s=true/\o.good nx=true /\
   ∃ o',h.get n=some o'/\o'.bJ.ty=o.bJ.ty/\o'.bJ.k=o.bJ.k/\jf (T.eX ρ o.bJ.l) o'.bJ.l:=by
 rw[Bool.and_eq_true] at q4
 exact⟨q1,q2,q3,q4.1,o',q5,q6.1,q6.2,jf.of_eq ((OV.Jr q4.2 ρ).trans q7)⟩
set_option maxHeartbeats 1000000 in
theorem S.sH(r:Rule)(e:Elem)(hr:zV r)(hp:NW e.counts.length r)(hc:TF e.counts)(hl:e.counts.length<=6):aj Tryz.prog 43 [.dat (.rule r),.dat (.elem e)] (nM r e):=by
 obtain⟨f1,f2⟩:=hp.src
 obtain⟨d1,d2⟩:=hp.dst
 obtain⟨p1,p2⟩:=hp.TA
 obtain⟨q1,q2⟩:=hp.TB
 have hfr:=hc.get (i:=r.fr.toNat) (by omega)
 refine aj.of Bd.sH (by simp) rfl (Oe r e) ?_
 conv=>whnf
 repeat(refine VC.mk (by first|exact id|exact fun h=>⟨h,h⟩|(intro h; rw[h]; rfl)|(intro h; (repeat' apply And.intro)<;>first|exact h|omega|(simp only[Rw.qV]; omega)|(simp only[Rw.rng]; omega))) ?_; conv=>whnf)
 refine⟨fun h1=>?_,fun h1=>?_⟩
 ·conv=>whnf
  refine ak.eqv ?_
  rw[lt1 hfr.1] at h1
  rw[nM,kN,h1]; rfl
 rw[lt1 hfr.1] at h1
 conv=>whnf
 refine ah.heap (rE.frame (S.Ic e (by omega)) _ _) ?_
 rintro t hp ⟨rfl,rfl⟩
 refine⟨.agg [.int e.value,.own 24],(24,some (He e.counts))::_,rfl,PO,?_⟩
 have hl1:(dn e.counts r.fr).length=e.counts.length:=by simp[dn]
 conv=>whnf
 repeat(refine VC.mk (by first|(first|(simp only[Rw.rng]; omega)|(simp only[okI,dn] at *; omega))|exact fun h=>h|exact fun h=>⟨h,h⟩) ?_; conv=>whnf)
 have hex:=hr.ex
 have hal:=hr.all
 refine ah.TS (fun _=>S.sJ (dn e.counts r.fr) r.ex false false (by omega) (by omega) (by rw[hl1]; exact hp.exs)) (fun _=>And.intro (TQ trivial rfl) (And.intro (fQ _) trivial)) rfl rfl ?_
 conv=>whnf
 repeat(refine VC.mk (by first|exact id|exact fun h=>⟨h,h⟩|(intro h; simp[h]; done)) ?_; conv=>whnf)
 refine ah.TS (fun _=>S.mD (dn e.counts r.fr) r.all false false (by omega) (by omega)) (fun _=>And.intro (TQ trivial rfl) (And.intro (fQ _) trivial)) rfl rfl ?_
 conv=>whnf
 repeat(refine VC.mk (by cases (r.kind==1)<;>cases (decide (0<(r.ex.length:Int))&& !AV (dn e.counts r.fr) r.ex)<;>simp) ?_; conv=>whnf)
 have hpos: ∀ i,0<=(dn e.counts r.fr).getD i 0:=PW hc h1
 refine⟨fun h2=>?_,fun h2=>?_⟩
 ·replace h2:((r.kind==1)&&((decide (0<(r.ex.length:Int))&& !(AV (dn e.counts r.fr) r.ex))||(decide (0<(r.all.length:Int))&&QY (dn e.counts r.fr) r.all)))=true:=h2
  rw[Lu hpos (by rw[hl1]; exact hp.exs),Bool.and_eq_true] at h2
  conv=>whnf
  refine ak.eqv ?_
  rw[nM,kN,h1,h2.1,h2.2]; rfl
 replace h2:((r.kind==1)&&((decide (0<(r.ex.length:Int))&& !(AV (dn e.counts r.fr) r.ex))||(decide (0<(r.all.length:Int))&&QY (dn e.counts r.fr) r.all)))=false:=h2
 rw[Lu hpos (by rw[hl1]; exact hp.exs)] at h2
 conv=>whnf
 refine⟨fun h5=>?_,fun h5=>?_⟩
 ·replace h5:(r.kind==2)=true:=h5
  have hB:=hc.b.dec (by omega) r.fr
  have hB1:=hB.get (by omega) r.ig.toNat
  have hB2:=hB.dec (by omega) r.ig
  have hB3:=hB2.get (by omega) r.zB.toNat
  have hB4:=hB2.add (by omega) r.zB 1 (k:=1) ⟨by omega,by omega⟩
  have hB5:=hB4.get (by omega) r.to.toNat
  have h12:(r.kind==1)=false:=by rw[beq_iff_eq.1 h5]; rfl
  conv=>whnf
  repeat(refine VC.mk (by first|(simp only[Rw.rng,List.length_set]; omega)|(simp only[dn,kM] at *; omega)) ?_; conv=>whnf)
  refine⟨fun h6=>?_,fun h6=>?_⟩
  ·replace h6:decide ((dn e.counts r.fr).getD r.ig.toNat 0<1)=true:=h6
   rw[lt1 (hpos _)] at h6
   conv=>whnf
   refine ak.eqv ?_
   rw[nM,kN,h1,h12,h5,h6]; rfl
  ·replace h6:decide ((dn e.counts r.fr).getD r.ig.toNat 0<1)=false:=h6
   rw[lt1 (hpos _)] at h6
   have h13:(r.kind==3)=false:=by rw[beq_iff_eq.1 h5]; rfl
   conv=>whnf
   repeat(refine VC.mk (by first|(simp only[Rw.rng,List.length_set]; omega)|(simp only[okI,dn,kM] at *; omega)) ?_; conv=>whnf)
   refine Fork.mk (fun q=>absurd (q.symm.trans (h13)).symm Bool.false_ne_true) (fun _=>?_)
   conv=>whnf
   repeat(refine VC.mk (by simp only[okI,Rw.rng] at *; first|omega|(simp_all; done)|(simp_all; omega)) ?_; conv=>whnf)
   conv=>whnf
   repeat(refine VC.mk (by first|(simp only[Rw.rng,List.length_set]; omega)|(simp only[okI,dn,kM] at *; omega)) ?_; conv=>whnf)
   refine⟨fun h4=>?_,fun h4=>?_⟩
   ·replace h4:decide (r.write>=0)=true:=h4
    have hS:nM r e= .iF [.dat (.elem ⟨r.write,kM (kM (dn (dn e.counts r.fr) r.ig) r.zB 1) r.to 1⟩),.bool true]:=by rw[nM,kN,h1,h12,h5,h6,h4]; rfl
    conv=>whnf
    rw[hS]
    exact ak.Ih rfl
   ·replace h4:decide (r.write>=0)=false:=h4
    have hS:nM r e= .iF [.dat (.elem ⟨e.value,kM (kM (dn (dn e.counts r.fr) r.ig) r.zB 1) r.to 1⟩),.bool true]:=by rw[nM,kN,h1,h12,h5,h6,h4]; rfl
    conv=>whnf
    rw[hS]
    exact ak.Ih rfl
 ·replace h5:(r.kind==2)=false:=h5
  conv=>whnf
  refine⟨fun h6=>?_,fun h6=>?_⟩
  ·have h12:(r.kind==1)=false:=by rw[beq_iff_eq.1 h6]; rfl
   have hB:=hc.b.dec (by omega) r.fr
   obtain⟨rs1,rs2⟩:=hp.rsp (beq_iff_eq.1 h6)
   conv=>whnf
   have hm:=Ld (n:=(dn e.counts r.fr).length) (by omega)
   simp only[dn] at hm
   rw[hm]
   conv=>whnf
   refine .mk (by simp only[List.length_set]; omega) ?_
   conv=>whnf
   refine aX.Tn 100 [2,4,6] (fun i:Nat=>[(8,.int i),(7,.own 75)]) (fun i=>[(0,.box 71 19 (.dat (.rule r))),(1,.box 50 3 (.dat (.elem e))),(2,.box 50 3 (.agg [.int 0,.row 0 true .nil])),(24,He (dn e.counts r.fr)),(25,.box 50 3 (.agg [.int e.value,.own 24])),(75,He (qX r (dn e.counts r.fr) i))]) (fun i=>i<=(dn e.counts r.fr).length) (fun i=>(dn e.counts r.fr).length-i) 0 [0,1,2,24,25,75] rfl (by decide) (fun _=>rfl) (Nat.zero_le _) ?_ ?_ ?_
   ·exact⟨⟨_,rfl,.eq rfl⟩,⟨_,rfl,.eq rfl⟩,trivial⟩
   ·exact⟨okF rfl nofun rfl rfl rfl ⟨rfl,rfl⟩ rfl,okF rfl nofun rfl rfl rfl ⟨rfl,rfl⟩ rfl,okF rfl nofun rfl rfl rfl ⟨rfl,rfl⟩ rfl,okF rfl nofun rfl rfl rfl ⟨rfl,rfl⟩ rfl,⟨rfl,nofun,rfl,rfl,_,rfl,rfl,rfl,jf.of_eq rfl⟩,okF rfl nofun rfl rfl rfl ⟨rfl,rfl⟩ rfl,trivial⟩
   conv=>whnf
   refine⟨⟨⟨_,rfl,.eq rfl⟩,⟨_,rfl,.eq rfl⟩,⟨_,rfl,.eq rfl⟩,trivial⟩,rfl,?_⟩
   rintro i hi
   have hn6:(i:Int)*1048577<=6*1048577:=Int.mul_le_mul_of_nonneg_right (by omega) (by omega)
   have hn0:0<=(i:Int)*1048577:=Int.mul_nonneg (by omega) (by omega)
   have hRB:=Zj hB (by omega) (r:=r) i
   have hRl:(qX r (dn e.counts r.fr) i).length=e.counts.length:=by rw[vg,hl1]
   conv=>whnf
   refine⟨fun g1=>?_,fun g1=>?_⟩
   ·have hi':i<(dn e.counts r.fr).length:=by
     have:(i:Int)<((qX r (dn e.counts r.fr) i).length:Int):=of_decide_eq_true g1
     omega
    have hir:i<r.response.length:=by omega
    obtain⟨q3,q4⟩:0<=r.response.getD i 0/\r.response.getD i 0<e.counts.length:=by
     rw[show r.response.getD i 0=r.response[i] by simp[hir]]; exact rs2 _ (List.getElem_mem hir)
    have hR1:=hRB.get hn0 (r.response.getD i 0).toNat
    have hR2:=hB.get (by omega) i
    conv=>whnf
    repeat(refine VC.mk (by first|(first|(simp only[Rw.rng,vg]; omega)|(simp only[okI,dn,Int.toNat_natCast] at *; omega))|(simp only[Rw.rng] at *; first|omega|(simp_all; done)|(simp_all; omega))) ?_; conv=>whnf)
    refine⟨i+1,[0,1,2,24,25,75],by omega,by omega,⟨⟨_,rfl,.eq rfl⟩,⟨_,rfl,.eq rfl⟩,trivial⟩,⟨⟨_,rfl,.eq rfl⟩,⟨_,rfl,.eq rfl⟩,⟨_,rfl,.eq rfl⟩,trivial⟩,okF rfl nofun rfl rfl rfl ⟨rfl,rfl⟩ rfl,okF rfl nofun rfl rfl rfl ⟨rfl,rfl⟩ rfl,okF rfl nofun rfl rfl rfl ⟨rfl,rfl⟩ rfl,okF rfl nofun rfl rfl rfl ⟨rfl,rfl⟩ rfl,⟨rfl,nofun,rfl,rfl,_,rfl,rfl,rfl,jf.of_eq rfl⟩,okF rfl nofun rfl rfl rfl ?_ ?_,trivial⟩
    ·exact⟨rfl,rfl⟩
    ·rw[yQ]; rfl
   have hi':i=(dn e.counts r.fr).length:=by
    have: ¬ ((i:Int)<((qX r (dn e.counts r.fr) i).length:Int)):=of_decide_eq_false g1
    omega
   subst hi'
   have hR1:=hRB.get hn0 r.to.toNat
   conv=>whnf
   repeat(refine VC.mk (by first|(simp only[Rw.rng,vg]; omega)|(simp only[okI,dn,Int.toNat_natCast] at *; omega)) ?_; conv=>whnf)
   refine⟨fun h4=>?_,fun h4=>?_⟩
   ·replace h4:decide (r.write>=0)=true:=h4
    have hS:nM r e= .iF [.dat (.elem ⟨r.write,kM (qX r (dn e.counts r.fr) (dn e.counts r.fr).length) r.to 1⟩),.bool true]:=by rw[nM,kN,h1,h12,h5,h6,h4]; rfl
    conv=>whnf
    rw[hS]
    exact ak.Ih rfl
   ·replace h4:decide (r.write>=0)=false:=h4
    have hS:nM r e= .iF [.dat (.elem ⟨e.value,kM (qX r (dn e.counts r.fr) (dn e.counts r.fr).length) r.to 1⟩),.bool true]:=by rw[nM,kN,h1,h12,h5,h6,h4]; rfl
    conv=>whnf
    rw[hS]
    exact ak.Ih rfl
  ·replace h6:(r.kind==3)=false:=h6
   have hB:=hc.b.dec (by omega) r.fr
   have hB1:=hB.get (by omega) r.to.toNat
   have hgen:kN r e=some ⟨bif decide (r.write>=0) then r.write else e.value,kM (dn e.counts r.fr) r.to 1⟩:=by
    rw[kN,h1,h5,h6]
    cases h12:(r.kind==1) with
    |false=>rfl
    |true=>rw[h12,Bool.true_and] at h2; rw[h2]; rfl
   conv=>whnf
   repeat(refine VC.mk (by first|(simp only[Rw.rng,List.length_set]; omega)|(simp only[okI,dn,kM] at *; omega)) ?_; conv=>whnf)
   refine⟨fun h4=>?_,fun h4=>?_⟩
   ·replace h4:decide (r.write>=0)=true:=h4
    have hS:nM r e= .iF [.dat (.elem ⟨r.write,kM (dn e.counts r.fr) r.to 1⟩),.bool true]:=by rw[nM,hgen,h4]; rfl
    conv=>whnf
    rw[hS]
    exact ak.Ih rfl
   ·replace h4:decide (r.write>=0)=false:=h4
    have hS:nM r e= .iF [.dat (.elem ⟨e.value,kM (dn e.counts r.fr) r.to 1⟩),.bool true]:=by rw[nM,hgen,h4]; rfl
    conv=>whnf
    rw[hS]
    exact ak.Ih rfl
theorem bz{c:Bool}{a b:Int}(ha:c=true->a≠0)(h:(bif c then a else b)=0):c=false/\b=0:=by
 cases c with
 |true=>exact absurd h (ha rfl)
 |false=>exact⟨rfl,h⟩
theorem nz{a:Int}(h:(a !=0)=true):a≠0:=by simpa using h
theorem sK: ∀ {l:List Int},aY l=0-> ∀ x∈l,x=0:=by
 intro l
 induction l with
 |nil=>intro _ x h; cases h
 |cons a r ih =>
  intro h x hx
  simp only[aY] at h
  split at h
  ·rename_i h0
   rcases List.mem_cons.1 hx with rfl|hx
   ·exact h0
   ·exact ih h x hx
  ·rename_i h0; exact absurd h h0
structure Jg(p:aJ):Prop where
 pos:0<p.states.length
 states:p.states.length<=6
 values:p.values.length<=3
 acn:p.rules.length<=8
 init:jg p.initial p.states.length=0
 start:p.initial≠[]
 rule: ∀ i,i<p.rules.length->gq p i=0
theorem Ji{p:aJ}(h:bV p=0):Jg p:=by
 unfold bV at h
 obtain⟨_,h⟩:=bz (fun _=>by decide) h
 obtain⟨_,h⟩:=bz (fun _=>by decide) h
 obtain⟨h0,h⟩:=bz (fun _=>by decide) h
 obtain⟨h1,h⟩:=bz (fun _=>by decide) h
 obtain⟨_,h⟩:=bz nz h
 obtain⟨_,h⟩:=bz (fun _=>by decide) h
 obtain⟨_,h⟩:=bz (fun _=>by decide) h
 obtain⟨h2,h⟩:=bz nz h
 obtain⟨h3,h⟩:=bz nz h
 have h2':vk p=0:=by simpa using h2
 have h3':zW p=0:=by simpa using h3
 have g:=sK h2'
 simp only[sN,Bool.or_eq_false_iff,decide_eq_false_iff_not] at h1
 refine⟨?_,by omega,by omega,by omega,g _ (by simp),?_,fun i hi=>?_⟩
 ·have:(p.states.length:Int)≠0:=by simpa using h0
  omega
 ·intro e
  have:=g (eF ((p.initial.length:Int)==0) 1) (by simp)
  rw[e] at this; exact absurd this (by decide)
 ·exact sK h3' _ (List.mem_map.2 ⟨i,by simpa using hi,rfl⟩)
theorem um{x:Int}{n:Nat}(h:nN x n=false):0<=x/\x<n:=by
 simp only[nN,Bool.or_eq_false_iff,decide_eq_false_iff_not] at h; omega
theorem zX{x:Int}{n:Nat}(h:cO x n=0):0<=x/\x<n:=by
 refine um ?_
 unfold cO eF at h
 cases hb:nN x n with
 |false=>rfl
 |true=>rw[hb] at h; exact absurd h (by decide)
theorem Ii{l:List Int}{n:Nat}(h:jg l n=0):pJ n l:=by
 unfold jg at h
 obtain⟨h,_⟩:=bz (fun _=>by decide) h
 rw[List.any_eq_false] at h
 exact fun q hq=>um (by simpa using h q hq)
theorem LC{n:Nat}: ∀ {l:List Int},oz l n=0->pJ n l:=by
 intro l
 induction l with
 |nil=>intro _ q h; cases h
 |cons x r ih =>
  intro h q hq
  simp only[oz] at h
  split at h
  ·rename_i h0
   rcases List.mem_cons.1 hq with rfl|hq
   ·exact zX h0
   ·exact ih h q hq
  ·rename_i h0; exact absurd h h0
theorem Ie{k:Int}(h:qH k 1=true):k=1\/k=2\/k=3:=by
 unfold qH at h
 cases h1:(k==1) with
 |true=>exact .inl (beq_iff_eq.1 h1)
 |false =>
  cases h2:(k==2) with
  |true=>exact .inr (.inl (beq_iff_eq.1 h2))
  |false =>
   cases h3:(k==3) with
   |true=>exact .inr (.inr (beq_iff_eq.1 h3))
   |false=>rw[h1,h2,h3] at h; cases hb:(k==4||k==5)<;>rw[hb] at h<;>cases h
structure aa2(n:Nat)(p:aJ)(r:Rule):Prop where
 place:NW n r
 kind:r.kind=1\/r.kind=2\/r.kind=3
 acZ:pJ n r.all
 ex1:r.kind≠1->r.ex=[]/\r.all=[]
 rd:nN r.read p.values.length=false\/r.read= -1
 wr:nN r.write p.values.length=false\/r.write= -1
theorem pU{p:aJ}{v:Int}(h:jA p v=0):nN v p.values.length=false\/v= -1:=by
 unfold jA eF at h
 have h': ¬ (v< -1\/v>=(p.values.length:Int)):=by
  intro q
  have:(decide (v< -1)||decide (v>=(p.values.length:Int)))=true:=by simpa using q
  rw[this] at h; exact absurd h (by decide)
 by_cases e:v= -1
 ·exact .inr e
 ·left
  simp only[nN,Bool.or_eq_false_iff,decide_eq_false_iff_not]; omega
theorem aa0{p:aJ}{i:Nat}(hv:Jg p)(ht:p.topology=1)(hi:i<p.rules.length):aa2 p.states.length p (p.rules.getD i default):=by
 have h:=hv.rule i hi
 have hpos:=hv.pos
 simp only[gq,nR] at h
 generalize (p.rules.getD i default)=r at h ⊢
 obtain⟨_,h⟩:=bz (fun _=>by decide) h
 obtain⟨hb,h⟩:=bz (fun _=>by decide) h
 obtain⟨he,h⟩:=bz nz h
 rw[Es,Bool.or_eq_false_iff] at he
 rw[ht,Bool.or_eq_false_iff] at hb
 have hk:=Ie (show qH r.kind 1=true by simpa using hb.1)
 have hu:jT r 1=false:=by rw[sG (by omega)]; exact hb.2
 have hun:=Ij hu
 have hpf:r.kind≠2->r.kind≠5->r.ig=0/\r.zB=0:=by
  intro k1 k2
  simp only[jT,Jh,Bool.or_eq_false_iff] at hu
  have h3:=hu.2.2.1
  simp only[beq_eq_false_iff_ne.2 k1,beq_eq_false_iff_ne.2 k2,Bool.not_false,Bool.true_and,Bool.or_eq_false_iff] at h3
  exact⟨Og h3.1,Og h3.2⟩
 have h00:(0:Int)<=0/\(0:Int)<p.states.length:=⟨by omega,by omega⟩
 have pn:pJ p.states.length []:=fun q hq=>by cases hq
 rcases hk with e|e|e
 ·rw[e] at h
  have g:=sK h
  have⟨a,b⟩:=hpf (by omega) (by omega)
  exact⟨⟨um he.1,um he.2,by rw[a]; exact h00,by rw[b]; exact h00,fun q=>by omega,Ii (g (jg r.ex p.states.length) (by simp))⟩,.inl e,Ii (g (jg r.all p.states.length) (by simp)),fun q=>absurd e q,pU (g (jA p r.read) (by simp)),pU (g (jA p r.write) (by simp))⟩
 ·rw[e] at h
  have g:=sK h
  obtain⟨_,u1,u2,_⟩:=hun.1 (by omega)
  exact⟨⟨um he.1,um he.2,zX (g (cO r.ig p.states.length) (by simp)),zX (g (cO r.zB p.states.length) (by simp)),fun q=>by omega,by rw[u1]; exact pn⟩,.inr (.inl e),by rw[u2]; exact pn,fun _=>⟨u1,u2⟩,pU (g (jA p r.read) (by simp)),pU (g (jA p r.write) (by simp))⟩
 ·rw[e] at h
  have g:=sK h
  have⟨a,b⟩:=hpf (by omega) (by omega)
  obtain⟨_,u1,u2,_⟩:=hun.1 (by omega)
  have hr:=g (AX r.response p.states.length) (by simp)
  unfold AX at hr
  obtain⟨r1,r2⟩:=bz (fun _=>by decide) hr
  exact⟨⟨um he.1,um he.2,by rw[a]; exact h00,by rw[b]; exact h00,fun _=>⟨by have q9:(r.response.length:Int)=p.states.length:=(by simpa using r1); omega,LC r2⟩,by rw[u1]; exact pn⟩,.inr (.inr e),by rw[u2]; exact pn,fun _=>⟨u1,u2⟩,pU (g (jA p r.read) (by simp)),pU (g (jA p r.write) (by simp))⟩
theorem QT{p:aJ}(h:pV p=true):p.topology=1:=by
 simp only[pV,Bool.and_eq_true,beq_iff_eq] at h; exact h.1.1.1
structure ac0(p:aJ)(e:Elem):Prop where
 valid:Jg p
 plain:pV p=true
 len:e.counts.length=p.states.length
 nums:TF e.counts
 val:0<=e.value/\e.value<max 1 (p.values.length:Int)
theorem yN{p:aJ}(h:Je p=0):bV p=0/\pV p=true:=by
 unfold Je at h
 obtain⟨h1,h⟩:=bz nz h
 obtain⟨h2,_⟩:=bz (fun _=>by decide) h
 refine⟨by simpa using h1,?_⟩
 simp only[mQ] at h2
 cases hp:pV p with
 |true=>rfl
 |false=>rw[hp] at h2; simp at h2
theorem WX{x:Int}:CG x=true↔0<=x/\x<=1048576:=by simp[CG]
theorem N7{p:aJ}{e:Elem}(h:uM p e=false):e.counts.length=p.states.length/\TF e.counts/\0<=e.value/\e.value<max 1 (p.values.length:Int):=by
 simp only[uM,Bool.or_eq_false_iff,decide_eq_false_iff_not] at h
 obtain⟨⟨⟨h1,h2⟩,h3⟩,h4⟩:=h
 refine⟨?_,fun x hx=>?_,by omega,by omega⟩
 ·have:(e.counts.length:Int)=p.states.length:=by simpa using h1
  omega
 ·have:e.counts.all CG=true:=by simpa using h2
  exact WX.1 (List.all_eq_true.1 this x hx)
theorem vw{α:Type}{c:Bool}{a b:Option α}{x:α}(h:(bif c then a else b)=some x):a=some x\/b=some x:=by
 cases c with
 |true=>exact .inl h
 |false=>exact .inr h
theorem CS{c:List Int}{i d:Int}:(kM c i d).length=c.length:=by simp[kM]
theorem pR{c:List Int}{i:Int}:(dn c i).length=c.length:=by simp[dn]
theorem Ig{r:Rule}{e x:Elem}(h:kN r e=some x):x.counts.length=e.counts.length:=by
 simp only[kN] at h
 have out: ∀ {c:List Int} {v:Int},c.length=e.counts.length->some (⟨v,kM c r.to 1⟩:Elem)=some x->x.counts.length=e.counts.length:=by
  intro c v hc h; cases h; rw[CS,hc]
 rcases vw h with h|h
 ·cases h
 rcases vw h with h|h
 ·rcases vw h with h|h
  ·cases h
  ·exact out pR h
 rcases vw h with h|h
 ·rcases vw h with h|h
  ·cases h
  ·exact out (by rw[CS,pR,pR]) h
 rcases vw h with h|h
 ·exact out (by rw[vg,pR]) h
 ·exact out pR h
end Go.Proofs.YtkomllaebngbfaaGreatDoor
namespace Go.Proofs.YtkomllaebngbfaaGreatDoor
open Go.Ab Go.Proofs
set_option maxRecDepth 100000
structure zT(q:Prop'):Prop where
 start:q.start.length<2^30
 bad:q.bad.length<2^30
 adjacent:q.adjacent.length<2^30
 goal:q.goal.length<2^30
 cnt: ∀ i,(q.bad.getD i default).states.length<2^30
def vC(c:Cnt):Bool:=((c.states.length:Int)==0||decide (c.least<1))||decide (c.least>3)
def Js(n:Int)(c:Cnt):Int:=aY [jg c.states n,eF (vC c) 1]
def uo(l:List Cnt)(n:Int):Int:=aY (l.map (Js n))
def Ei(p:aJ)(l:List Int):Int:=bif (l.length:Int)==0 then 0 else bif p.topology==1 then 6 else bif (l.length:Int) !=2 then 1 else aY [cO (l.getD 0 0) p.states.length,cO (l.getD 1 0) p.states.length]
def rF(q:Prop'):Bool:=((q.kind==1)&&decide ((q.goal.length:Int)>0))||(!(q.kind==1)&&(decide ((q.bad.length:Int)>0)||decide ((q.adjacent.length:Int)>0)))
def lX(p:aJ)(q:Prop'):Int :=
 let n:Int:=p.states.length
 bif bV p !=0 then bV p else bif !(validName q.name) then 2 else bif !(q.kind==1)&&q.kind !=2 then 1 else bif rF q then 1 else
 bif jg q.start n !=0 then jg q.start n else bif q.start.any (fun x=> !(Hf p.initial x)) then 5 else
 bif !(q.kind==1) then aY [jg q.goal n,eF ((q.goal.length:Int)==0) 1] else
 aY [eF (((q.bad.length:Int)==0)&&((q.adjacent.length:Int)==0)) 1,eF (decide ((q.bad.length:Int)>3)) 4,uo q.bad n,Ei p q.adjacent]
theorem S.iZ(l:List Cnt)(n:Int)(f:Bool)(hl:l.length<2^30)(hs: ∀ i,(l.getD i default).states.length<2^30):aj Tryz.prog 153 [.row 3 f (.cnts l),.int n] (.int (uo l n)):=by
 refine aj.of Bd.iZ (by simp) rfl rfl ?_
 conv=>whnf
 refine aX.same [1,8,9] (fun i:Nat=>[(10,.int i)]) (fun i=>i<=l.length/\uo l n=aY ((l.drop i).map (Js n))) (fun i=>l.length-i) 0 rfl (by decide) rfl (fun _=>rfl) ⟨by omega,by simp[uo]⟩ ⟨⟨_,rfl,rfl⟩,trivial⟩ ?_
 conv=>whnf
 refine⟨rfl,?_⟩
 rintro i ⟨hi,hall⟩
 conv=>whnf
 refine⟨fun h3=>?_,fun h3=>?_⟩
 ·have hi':i<l.length:=by simpa using h3
  rw[dM default hi',List.map_cons] at hall
  simp only[aY] at hall
  have hc:=hs i
  conv=>whnf
  refine .mk (by simp only[Rw.rng] at *; omega) ?_
  conv=>whnf
  refine ah.pure (S.dF (l.getD i default).states n false (by omega)) rfl ?_
  conv=>whnf
  repeat(refine VC.mk (by first|exact id|(intro h; rw[h]; rfl)) ?_; conv=>whnf)
  refine ah.pure (S.bn (vC (l.getD i default)) 1) rfl ?_
  conv=>whnf
  refine ah.pure (S.aZ [jg (l.getD i default).states n,eF (vC (l.getD i default)) 1] true (show 2<2^40 by decide)) rfl ?_
  conv=>whnf
  refine⟨fun h4=>?_,fun h4=>?_⟩
  ·conv=>whnf
   refine ak.int ?_
   have h4':Js n (l.getD i default)≠0:=nz h4
   rw[hall,if_neg h4']; rfl
  ·conv=>whnf
   refine .mk (by simp only[okI] at *; omega) ?_
   conv=>whnf
   have h4':Js n (l.getD i default)=0:=G7 h4
   rw[if_pos h4'] at hall
   refine⟨i+1,⟨by omega,hall⟩,by omega,⟨⟨_,rfl,rfl⟩,trivial⟩,?_,rfl⟩
   repeat' (first|exact trivial|exact⟨_,rfl,rfl⟩|constructor)
 ·have hi':l.length<=i:=by simpa using h3
  rw[List.drop_eq_nil_of_le hi'] at hall
  conv=>whnf
  exact ak.int (by rw[hall]; rfl)
theorem S.gJ(p:aJ)(l:List Int)(f:Bool)(_hl:l.length<2^30):aj Tryz.prog 154 [.dat (.iC p),.row 0 f (.ints l)] (.int (Ei p l)):=by
 refine aj.of Bd.gJ (by simp) rfl rfl ?_
 conv=>whnf
 refine⟨fun h1=>?_,fun h1=>?_⟩
 ·conv=>whnf
  exact ak.int (by rw[Ei,h1]; rfl)
 conv=>whnf
 refine⟨fun h2=>?_,fun h2=>?_⟩
 ·conv=>whnf
  exact ak.int (by rw[Ei,h1,h2]; rfl)
 conv=>whnf
 refine⟨fun h3=>?_,fun h3=>?_⟩
 ·conv=>whnf
  exact ak.int (by rw[Ei,h1,h2,h3]; rfl)
 have h4:l.length=2:=by
  have:(l.length:Int)=2:=by simpa using h3
  omega
 conv=>whnf
 repeat(refine VC.mk (by simp only[Rw.rng] at *; omega) ?_; conv=>whnf)
 refine ah.pure (S.bD (l.getD 0 0) p.states.length) rfl ?_
 conv=>whnf
 refine ah.pure (S.bD (l.getD 1 0) p.states.length) rfl ?_
 conv=>whnf
 refine ah.pure (S.aZ [cO (l.getD 0 0) p.states.length,cO (l.getD 1 0) p.states.length] true (show 2<2^40 by decide)) rfl ?_
 conv=>whnf
 exact ak.int (by rw[Ei,h1,h2,h3]; rfl)
theorem S.dB(p:aJ)(q:Prop')(hp:dA p)(hq:zT q):aj Tryz.prog 101 [.dat (.iC p),.dat (.prop q)] (.int (lX p q)):=by
 have g1:=hp.states; have g5:=hp.initial
 have q1:=hq.start; have q2:=hq.bad; have q3:=hq.adjacent; have q4:=hq.goal
 refine aj.of Bd.dB (by simp) rfl rfl ?_
 conv=>whnf
 refine ah.pure (S.fD p hp) rfl ?_
 conv=>whnf
 refine⟨fun h1=>?_,fun h1=>?_⟩
 ·conv=>whnf
  exact ak.int (by rw[lX,h1]; rfl)
 conv=>whnf
 refine ah.pure (S.dO q.name) rfl ?_
 conv=>whnf
 refine⟨fun h2=>?_,fun h2=>?_⟩
 ·conv=>whnf
  exact ak.int (by rw[lX,h1,h2]; rfl)
 conv=>whnf
 repeat(refine VC.mk id ?_; conv=>whnf)
 refine⟨fun h3=>?_,fun h3=>?_⟩
 ·conv=>whnf
  exact ak.int (by rw[lX,h1,h2,h3]; rfl)
 conv=>whnf
 repeat(refine VC.mk id ?_; conv=>whnf)
 refine⟨fun h4=>?_,fun h4=>?_⟩
 ·conv=>whnf
  refine Fork.mk (fun _=>?_) (fun q=>absurd (q.symm.trans (h4)) Bool.false_ne_true)
  conv=>whnf
  exact ak.int (by rw[lX,h1,h2,h3,show rF q=true by rw[rF]; erw [h4]; rfl]; rfl)
 conv=>whnf
 repeat(refine VC.mk (by first|exact id|(intro h; simp_all; done)) ?_; conv=>whnf)
 refine⟨fun h5=>?_,fun h5=>?_⟩
 ·conv=>whnf
  exact ak.int (by rw[lX,h1,h2,h3,show rF q=true by rw[rF]; erw [h5]; simp]; rfl)
 have h45:rF q=false:=by rw[rF]; erw [h4,h5]; rfl
 conv=>whnf
 refine ah.pure (S.dF q.start p.states.length false (by omega)) rfl ?_
 conv=>whnf
 refine⟨fun h6=>?_,fun h6=>?_⟩
 ·conv=>whnf
  exact ak.int (by rw[lX,h1,h2,h3,h45,h6]; rfl)
 conv=>whnf
 refine aX.same [2,3,6,7,65,66] (fun i:Nat=>[(67,.int i)]) (fun i=>i<=q.start.length/\(q.start.take i).any (fun x=> !(Hf p.initial x))=false) (fun i=>q.start.length-i) 0 rfl (by decide) rfl (fun _=>rfl) ⟨by omega,by simp⟩ ⟨⟨_,rfl,rfl⟩,trivial⟩ ?_
 conv=>whnf
 refine⟨rfl,?_⟩
 rintro i ⟨hi,hall⟩
 conv=>whnf
 refine⟨fun h7=>?_,fun h7=>?_⟩
 ·have hi':i<q.start.length:=by simpa using h7
  conv=>whnf
  refine .mk (by simp only[Rw.rng] at *; omega) ?_
  conv=>whnf
  refine ah.pure (S.slices_Contains_int p.initial (q.start.getD i 0) false (by omega)) rfl ?_
  conv=>whnf
  refine⟨fun h8=>?_,fun h8=>?_⟩
  ·conv=>whnf
   exact ak.int (by rw[lX,h1,h2,h3,h45,h6,iY (d:=0) hi' h8]; rfl)
  ·conv=>whnf
   refine .mk (by simp only[okI] at *; omega) ?_
   conv=>whnf
   refine⟨i+1,⟨by omega,?_⟩,by omega,⟨⟨_,rfl,rfl⟩,trivial⟩,?_,rfl⟩
   ·rw[kL (d:=0) hi' hall]; exact h8
   ·repeat' (first|exact trivial|exact⟨_,rfl,rfl⟩|constructor)
 have hi':q.start.length<=i:=by simpa using h7
 rw[List.take_of_length_le hi'] at hall
 conv=>whnf
 refine⟨fun h8=>?_,fun h8=>?_⟩
 ·conv=>whnf
  refine ah.pure (S.dF q.goal p.states.length false (by omega)) rfl ?_
  conv=>whnf
  refine ah.pure (S.bn ((q.goal.length:Int)==0) 1) rfl ?_
  conv=>whnf
  refine ah.pure (S.aZ [jg q.goal p.states.length,eF ((q.goal.length:Int)==0) 1] true (show 2<2^40 by decide)) rfl ?_
  conv=>whnf
  exact ak.int (by rw[lX,h1,h2,h3,h45,h6,hall,h8]; rfl)
 conv=>whnf
 repeat(refine VC.mk id ?_; conv=>whnf)
 refine ah.pure (S.bn (((q.bad.length:Int)==0)&&((q.adjacent.length:Int)==0)) 1) rfl ?_
 conv=>whnf
 refine ah.pure (S.bn (decide ((q.bad.length:Int)>3)) 4) rfl ?_
 conv=>whnf
 refine ah.pure (S.iZ q.bad p.states.length false q2 hq.cnt) rfl ?_
 conv=>whnf
 refine ah.pure (S.gJ p q.adjacent false q3) rfl ?_
 conv=>whnf
 refine ah.pure (S.aZ [eF (((q.bad.length:Int)==0)&&((q.adjacent.length:Int)==0)) 1,eF (decide ((q.bad.length:Int)>3)) 4,uo q.bad p.states.length,Ei p q.adjacent] true (show 4<2^40 by decide)) rfl ?_
 conv=>whnf
 exact ak.int (by rw[lX,h1,h2,h3,h45,h6,hall,h8]; rfl)
theorem S.wL(l:List Int)(s:Int)(f:Bool)(hl:l.length<2^40):aj Tryz.prog 155 [.row 0 f (.ints l),.int s] (.bool (Hf l s)):=by
 refine aj.of Bd.wL (by simp) rfl rfl ?_
 conv=>whnf
 refine aX.same [0,1] (fun i:Nat=>[(5,.int i)]) (fun i=>i<=l.length/\(l.take i).any (fun x=>s==x)=false) (fun i=>l.length-i) 0 rfl (by decide) rfl (fun _=>rfl) ⟨by omega,by simp⟩ ⟨⟨_,rfl,rfl⟩,trivial⟩ ?_
 conv=>whnf
 refine⟨rfl,?_⟩
 rintro i ⟨hi,hall⟩
 conv=>whnf
 refine⟨fun h3=>?_,fun h3=>?_⟩
 ·have hi':i<l.length:=by simpa using h3
  conv=>whnf
  refine .mk (by simp only[Rw.rng] at *; omega) ?_
  conv=>whnf
  refine⟨fun h4=>?_,fun h4=>?_⟩
  ·have h4':(s==l.getD i 0)=true:=by rw[show(s==l.getD i 0)=(l.getD i 0==s) from Bool.beq_comm]; exact h4
   conv=>whnf
   exact ak.bool (iY (d:=0) hi' h4')
  ·have h4':(s==l.getD i 0)=false:=by rw[show(s==l.getD i 0)=(l.getD i 0==s) from Bool.beq_comm]; exact h4
   conv=>whnf
   refine .mk (by simp only[okI] at *; omega) ?_
   conv=>whnf
   refine⟨i+1,⟨by omega,?_⟩,by omega,⟨⟨_,rfl,rfl⟩,trivial⟩,?_,rfl⟩
   ·rw[kL (d:=0) hi' hall]; exact h4'
   ·repeat' (first|exact trivial|exact⟨_,rfl,rfl⟩|constructor)
 ·have hi':l.length<=i:=by simpa using h3
  rw[List.take_of_length_le hi'] at hall
  conv=>whnf
  exact ak.bool hall
theorem WY{p:aJ}{l:List Int}(h1:(decide ((l.length:Int)>0)&&(p.topology==1))=false)(h2:((l.length:Int) !=0&&(l.length:Int) !=2)=false):Ei p l=bif l.any (fun x=>nN x p.states.length) then 5 else 0:=by
 unfold Ei
 rcases l with _|⟨a,_|⟨b,_|⟨c,r⟩⟩⟩
 ·rfl
 ·simp at h2
 ·have ht:(p.topology==1)=false:=by simpa using h1
  rw[ht]
  simp only[List.length_cons,List.length_nil,List.getD_cons_zero,List.getD_cons_succ,List.any_cons,List.any_nil,Bool.or_false,cO]
  cases nN a p.states.length<;>cases nN b p.states.length<;>rfl
 ·simp at h2; omega
theorem Oh{c:Cnt}:vC c=((c.states.length:Int)==0|| !(gK c.least 1 3)):=by
 rw[vC,mX,Bool.or_assoc]
theorem S.eG(p:aJ)(q:Prop')(hp:dA p)(hq:zT q):aj Tryz.prog 102 [.dat (.iC p),.dat (.prop q)] (.int (lX p q)):=by
 have g1:=hp.states; have g5:=hp.initial
 have q1:=hq.start; have q2:=hq.bad; have q3:=hq.adjacent; have q4:=hq.goal
 refine aj.of Bd.eG (by simp) rfl rfl ?_
 conv=>whnf
 refine ah.pure (S.jX p hp) rfl ?_
 conv=>whnf
 refine⟨fun h1=>?_,fun h1=>?_⟩
 ·conv=>whnf
  exact ak.int (by rw[lX,h1]; rfl)
 conv=>whnf
 refine ah.pure (S.gy q.name) rfl ?_
 conv=>whnf
 refine⟨fun h2=>?_,fun h2=>?_⟩
 ·conv=>whnf
  exact ak.int (by rw[lX,h1,h2]; rfl)
 conv=>whnf
 repeat(refine VC.mk id ?_; conv=>whnf)
 refine⟨fun h3=>?_,fun h3=>?_⟩
 ·replace h3:(!(q.kind==1)&&q.kind !=2)=true:=h3
  conv=>whnf
  exact ak.int (by rw[lX,h1,h2,h3]; rfl)
 replace h3:(!(q.kind==1)&&q.kind !=2)=false:=h3
 have k2:(q.kind==2)= !(q.kind==1):=by
  cases e:(q.kind==1) with
  |true=>rw[beq_iff_eq.1 e]; rfl
  |false=>rw[e] at h3; simpa using h3
 conv=>whnf
 repeat(refine VC.mk (by first|exact id|(intro h; rw[h]; rfl)|(intro h; simp_all; done)) ?_; conv=>whnf)
 refine⟨fun h4=>?_,fun h4=>?_⟩
 ·rw[k2] at h4
  conv=>whnf
  exact ak.int (by rw[lX,h1,h2,h3,show rF q=true from h4]; rfl)
 rw[k2] at h4
 replace h4:rF q=false:=h4
 conv=>whnf
 refine ah.pure (S.gQ q.start p.states.length false (by omega) (by omega)) rfl ?_
 conv=>whnf
 refine⟨fun h6=>?_,fun h6=>?_⟩
 ·conv=>whnf
  exact ak.int (by rw[lX,h1,h2,h3,h4,h6]; rfl)
 conv=>whnf
 refine aX.same [2,3,6] (fun i:Nat=>[(8,.int i)]) (fun i=>i<=q.start.length/\(q.start.take i).any (fun x=> !(Hf p.initial x))=false) (fun i=>q.start.length-i) 0 rfl (by decide) rfl (fun _=>rfl) ⟨by omega,by simp⟩ ⟨⟨_,rfl,rfl⟩,trivial⟩ ?_
 conv=>whnf
 refine⟨rfl,?_⟩
 rintro i ⟨hi,hall⟩
 conv=>whnf
 refine⟨fun h7=>?_,fun h7=>?_⟩
 ·have hi':i<q.start.length:=by simpa using h7
  conv=>whnf
  refine .mk (by simp only[Rw.rng] at *; omega) ?_
  conv=>whnf
  refine ah.pure (S.wL p.initial (q.start.getD i 0) false (by omega)) rfl ?_
  conv=>whnf
  refine⟨fun h8=>?_,fun h8=>?_⟩
  ·conv=>whnf
   exact ak.int (by rw[lX,h1,h2,h3,h4,h6,iY (d:=0) hi' h8]; rfl)
  ·conv=>whnf
   refine .mk (by simp only[okI] at *; omega) ?_
   conv=>whnf
   refine⟨i+1,⟨by omega,?_⟩,by omega,⟨⟨_,rfl,rfl⟩,trivial⟩,?_,rfl⟩
   ·rw[kL (d:=0) hi' hall]; exact h8
   ·repeat' (first|exact trivial|exact⟨_,rfl,rfl⟩|constructor)
 have hi':q.start.length<=i:=by simpa using h7
 rw[List.take_of_length_le hi'] at hall
 clear h7 hi'
 conv=>whnf
 refine⟨fun h8=>?_,fun h8=>?_⟩
 ·have h8':(!(q.kind==1))=true:=by rw[<- k2]; exact h8
  have hS:lX p q=aY [jg q.goal p.states.length,eF ((q.goal.length:Int)==0) 1]:=by rw[lX,h1,h2,h3,h4,h6,hall,h8']; rfl
  rw[hS]
  conv=>whnf
  refine ah.pure (S.gQ q.goal p.states.length false (by omega) (by omega)) rfl ?_
  conv=>whnf
  refine⟨fun h9=>?_,fun h9=>?_⟩
  ·conv=>whnf
   exact ak.int (fN (nz h9))
  rw[show jg q.goal p.states.length=0 from G7 h9,f0]
  conv=>whnf
  refine⟨fun h10=>?_,fun h10=>?_⟩
  ·conv=>whnf
   exact ak.int (by rw[h10]; rfl)
  ·conv=>whnf
   exact ak.int (by rw[h10]; rfl)
 have h8':(!(q.kind==1))=false:=by rw[<- k2]; exact h8
 have hS:lX p q=aY [eF (((q.bad.length:Int)==0)&&((q.adjacent.length:Int)==0)) 1,eF (decide ((q.bad.length:Int)>3)) 4,uo q.bad p.states.length,Ei p q.adjacent]:=by rw[lX,h1,h2,h3,h4,h6,hall,h8']; rfl
 rw[hS]
 conv=>whnf
 repeat(refine VC.mk id ?_; conv=>whnf)
 refine⟨fun h9=>?_,fun h9=>?_⟩
 ·conv=>whnf
  exact ak.int (by rw[h9]; rfl)
 rw[h9,PZ]
 conv=>whnf
 refine⟨fun h10=>?_,fun h10=>?_⟩
 ·conv=>whnf
  exact ak.int (by rw[show decide ((q.bad.length:Int)>3)=true from h10]; rfl)
 rw[show decide ((q.bad.length:Int)>3)=false from h10,PZ]
 conv=>whnf
 refine aX.same [2,3,6] (fun i:Nat=>[(10,.int i)]) (fun i=>i<=q.bad.length/\uo q.bad p.states.length=aY ((q.bad.drop i).map (Js p.states.length))) (fun i=>q.bad.length-i) 0 rfl (by decide) rfl (fun _=>rfl) ⟨by omega,by simp[uo]⟩ ⟨⟨_,rfl,rfl⟩,trivial⟩ ?_
 conv=>whnf
 refine⟨rfl,?_⟩
 rintro j ⟨hj,hcnt⟩
 conv=>whnf
 refine⟨fun h11=>?_,fun h11=>?_⟩
 ·have hj':j<q.bad.length:=by simpa using h11
  rw[dM default hj',List.map_cons] at hcnt
  simp only[aY] at hcnt
  have hc:=hq.cnt j
  conv=>whnf
  refine .mk (by simp only[Rw.rng] at *; omega) ?_
  conv=>whnf
  refine ah.pure (S.gQ (q.bad.getD j default).states p.states.length false (by omega) (by omega)) rfl ?_
  conv=>whnf
  refine⟨fun h12=>?_,fun h12=>?_⟩
  ·conv=>whnf
   have e1:Js p.states.length (q.bad.getD j default)=jg (q.bad.getD j default).states p.states.length:=fN (nz h12)
   rw[e1,if_neg (nz h12)] at hcnt
   exact ak.int (by rw[hcnt,fN (nz h12)])
  have TT:jg (q.bad.getD j default).states p.states.length=0:=G7 h12
  have e1:Js p.states.length (q.bad.getD j default)=aY [eF (vC (q.bad.getD j default)) 1]:=by rw[Js,TT,f0]
  rw[e1,Oh] at hcnt
  conv=>whnf
  repeat(refine VC.mk (by first|exact id|(intro h; (repeat' apply And.intro)<;>first|exact h|omega|(simp only[Rw.qV]; omega)|(simp only[Rw.rng]; omega))|(simp only[Rw.rng] at *; omega)) ?_; conv=>whnf)
  refine ah.eY (fun _=>S.aP (q.bad.getD j default).least 1 3) rfl ?_
  conv=>whnf
  repeat(refine VC.mk (by first|exact id|(intro h; rw[h]; rfl)) ?_; conv=>whnf)
  refine⟨fun h13=>?_,fun h13=>?_⟩
  ·replace h13:(((q.bad.getD j default).states.length:Int)==0|| !(gK (q.bad.getD j default).least 1 3))=true:=h13
   rw[h13] at hcnt
   conv=>whnf
   exact ak.int (by rw[hcnt]; rfl)
  ·replace h13:(((q.bad.getD j default).states.length:Int)==0|| !(gK (q.bad.getD j default).least 1 3))=false:=h13
   rw[h13] at hcnt
   conv=>whnf
   refine .mk (by simp only[okI] at *; omega) ?_
   conv=>whnf
   refine⟨j+1,⟨by omega,hcnt⟩,by omega,⟨⟨_,rfl,rfl⟩,trivial⟩,?_,rfl⟩
   repeat' (first|exact trivial|exact⟨_,rfl,rfl⟩|constructor)
 have hj':q.bad.length<=j:=by simpa using h11
 rw[List.drop_eq_nil_of_le hj'] at hcnt
 rw[hcnt,show aY (List.map (Js p.states.length) [])=0 from rfl,f0]
 conv=>whnf
 repeat(refine VC.mk id ?_; conv=>whnf)
 refine⟨fun h12=>?_,fun h12=>?_⟩
 ·replace h12:(decide ((q.adjacent.length:Int)>0)&&(p.topology==1))=true:=h12
  conv=>whnf
  rw[Bool.and_eq_true] at h12
  have:((q.adjacent.length:Int)==0)=false:=beq_eq_false_iff_ne.2 (by have:=of_decide_eq_true h12.1; omega)
  exact ak.int (by rw[Ei,this,h12.2]; rfl)
 replace h12:(decide ((q.adjacent.length:Int)>0)&&(p.topology==1))=false:=h12
 conv=>whnf
 repeat(refine VC.mk id ?_; conv=>whnf)
 refine⟨fun h13=>?_,fun h13=>?_⟩
 ·replace h13:((q.adjacent.length:Int) !=0&&(q.adjacent.length:Int) !=2)=true:=h13
  conv=>whnf
  rw[Bool.and_eq_true] at h13
  have e0:((q.adjacent.length:Int)==0)=false:=by simpa using h13.1
  have e1:(p.topology==1)=false:=by
   rw[Bool.and_eq_false_iff] at h12
   rcases h12 with h12|h12
   ·have:=of_decide_eq_false h12
    have:(q.adjacent.length:Int)≠0:=by simpa using e0
    omega
   ·exact h12
  exact ak.int (by rw[Ei,e0,e1,h13.2]; rfl)
 replace h13:((q.adjacent.length:Int) !=0&&(q.adjacent.length:Int) !=2)=false:=h13
 rw[WY h12 h13]
 conv=>whnf
 refine aX.same [2,3,6] (fun i:Nat=>[(12,.int i)]) (fun i=>i<=q.adjacent.length/\(q.adjacent.take i).any (fun x=>nN x p.states.length)=false) (fun i=>q.adjacent.length-i) 0 rfl (by decide) rfl (fun _=>rfl) ⟨by omega,by simp⟩ ⟨⟨_,rfl,rfl⟩,trivial⟩ ?_
 conv=>whnf
 refine⟨rfl,?_⟩
 rintro k ⟨hk,Zk⟩
 conv=>whnf
 refine⟨fun h14=>?_,fun h14=>?_⟩
 ·have hk':k<q.adjacent.length:=by simpa using h14
  conv=>whnf
  repeat(refine VC.mk (by simp only[okI,Rw.rng] at *; omega) ?_; conv=>whnf)
  refine ah.pure (S.aP (q.adjacent.getD k 0) 0 (p.states.length-1)) rfl ?_
  conv=>whnf
  refine⟨fun h15=>?_,fun h15=>?_⟩
  ·replace h15:(!(gK (q.adjacent.getD k 0) 0 (p.states.length-1)))=true:=h15
   rw[sO] at h15
   conv=>whnf
   exact ak.int (by rw[iY (d:=0) hk' h15]; rfl)
  ·replace h15:(!(gK (q.adjacent.getD k 0) 0 (p.states.length-1)))=false:=h15
   rw[sO] at h15
   conv=>whnf
   refine .mk (by simp only[okI] at *; omega) ?_
   conv=>whnf
   refine⟨k+1,⟨by omega,?_⟩,by omega,⟨⟨_,rfl,rfl⟩,trivial⟩,?_,rfl⟩
   ·rw[kL (d:=0) hk' Zk]; exact h15
   ·repeat' (first|exact trivial|exact⟨_,rfl,rfl⟩|constructor)
 have hk':q.adjacent.length<=k:=by simpa using h14
 rw[List.take_of_length_le hk'] at Zk
 conv=>whnf
 exact ak.int (by rw[Zk]; rfl)
end Go.Proofs.YtkomllaebngbfaaGreatDoor
