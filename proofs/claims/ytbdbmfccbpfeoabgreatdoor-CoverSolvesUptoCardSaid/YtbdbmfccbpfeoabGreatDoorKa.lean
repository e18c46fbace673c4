/-
 A part of the proof. No condition.
-/
import Derived.Test.YtbdbmfccbpfeoabGreatDoorSb
import Derived.Test.YtbdbmfccbpfeoabGreatDoorLg
import Derived.Test.YtbdbmfccbpfeoabGreatDoorLe
import Derived.Test.YtbdbmfccbpfeoabGreatDoorSc
namespace Go.Proofs.YtbdbmfccbpfeoabGreatDoor
open Go.Ab Go.Proofs
set_option maxRecDepth 100000
def ny:List Int->List Int->Bool
 |[],[]=>true
 |x::a,y::b=>decide (x<=y)&&ny a b
 |_,_=>false
def kL(a b:Elem):Bool:=(a.value==b.value)&&ny a.counts b.counts
theorem nC: ∀ {a b:List Int},ny a b=true↔a.length=b.length/\ ∀ j,j<a.length->a.getD j 0<=b.getD j 0:=by
 intro a;induction a with
 |nil=>intro b; cases b<;>simp[ny]
 |cons x a ih =>
  intro b;cases b with
  |nil=>simp[ny]
  |cons y b =>
   simp only[ny,aD,ag,ih,bL];constructor
   ·rintro⟨h1,h2,h3⟩;refine⟨by omega,fun j hj=>?_⟩;cases j with
    |zero=>simpa using h1
    |succ j=>simpa using h3 j (by omega)
   ·rintro⟨h1,h2⟩;exact⟨by simpa using h2 0 (by omega),by omega,fun j hj=>by simpa using h2 (j+1) (by omega)⟩
theorem S.wI(a b:Elem)(ha:a.counts.length<2^40)(_hb:b.counts.length<2^40):aj Tryz.prog 70 [.dat (.elem a),.dat (.elem b)] (.bool (kL a b)):=by
 refine aj.of Bd.wI (by simp) rfl rfl ?_;repeat(refine VC.mk (by first|exact id|exact fun h=>⟨h,h⟩|(intro h; rw[h]; rfl)) ?_)
 refine⟨fun h1=>?_,fun h1=>?_⟩
 ·conv=>whnf
  refine ak.bool ?_;by_cases hv:a.value=b.value
  ·have:ny a.counts b.counts=false:=by
    rw[ek]; intro h; rw[nC] at h; simp[hv,h.1] at h1
   simp[kL,this]
  ·simp[kL,hv]
 ·have h2:a.value=b.value/\a.counts.length=b.counts.length:=by
   by_cases hv:a.value=b.value
   ·simp[hv] at h1; exact⟨hv,by omega⟩
   ·simp[hv] at h1
  refine aA.same [3,22,23] (fun i:Nat=>[(24,.int i)]) (fun i=>i<=a.counts.length/\ ∀ j,j<i->a.counts.getD j 0<=b.counts.getD j 0) (fun i=>a.counts.length-i) 0 rfl (by decide) rfl (fun _=>rfl) ⟨by omega,fun j hj=>by omega⟩ ⟨⟨_,rfl,rfl⟩,trivial⟩ ?_;refine⟨rfl,?_⟩;rintro i ⟨hi,hall⟩;refine⟨fun h3=>?_,fun h3=>?_⟩
  ·have hi':i<a.counts.length:=by simpa using h3
   repeat(refine VC.mk (by simp only[Rw.rng] at *; omega) ?_)
   refine⟨fun h4=>?_,fun h4=>?_⟩
   ·conv=>whnf
    refine ak.bool ?_
    have:ny a.counts b.counts=false:=by
     rw[ek]; intro h; rw[nC] at h; have:=h.2 i hi'; simp only[ap,ag] at h4; omega
    simp[kL,this]
   ·conv=>whnf
    refine .mk (by simp only[okI] at *; omega) ?_;refine⟨i+1,⟨by omega,fun j hj=>?_⟩,by omega,⟨⟨_,rfl,rfl⟩,trivial⟩,?_,rfl⟩
    ·by_cases e:j=i
     ·subst e; simp only[ap,am] at h4; omega
     ·exact hall j (by omega)
    ·repeat' (first|exact trivial|exact⟨_,rfl,rfl⟩|constructor)
  ·conv=>whnf
   refine ak.bool ?_;have hi':a.counts.length<=i:=by simpa using h3
   simp only[kL,aD,bv];rw[cK]; simp only[iff_true];exact⟨h2.1,nC.2 ⟨h2.2,fun j hj=>hall j (by omega)⟩⟩
def VB(a b:Int):Int:=if a<b then -1 else if b<a then 1 else 0
def cmpL:List Int->List Int->Int
 |[],[]=>0
 |[],_::_=> -1
 |_::_,[]=>1
 |x::a,y::b=>if x<y then -1 else if y<x then 1 else cmpL a b
def gY(a b:Elem):Int:=if a.value<b.value then -1 else if b.value<a.value then 1 else cmpL a.counts b.counts
theorem bY{α:Type}{l:List α}{i:Nat}(d:α)(h:i<l.length):l.drop i=l.getD i d::l.drop (i+1):=by
 rw[eD h]; simp[h]
theorem OC{a b:List Int}{i:Nat}(ha:i<a.length)(hb:i<b.length) :
  cmpL (a.drop i) (b.drop i)=if a.getD i 0<b.getD i 0 then -1 else if b.getD i 0<a.getD i 0 then 1 else cmpL (a.drop (i+1)) (b.drop (i+1)):=by
 rw[bY 0 ha,bY 0 hb]; rfl
theorem Gm{a b:List Int}{i:Nat}(hi:a.length<=i\/b.length<=i)(h1:i<=a.length)(h2:i<=b.length) :
  cmpL (a.drop i) (b.drop i)=if a.length<b.length then -1 else if b.length<a.length then 1 else 0:=by
 by_cases ha:a.length<=i
 ·have e:a.drop i=[]:=cI ha;rw[e];by_cases hb:b.length<=i
  ·rw[cI hb,bX (by omega),bX (by omega)]; rfl
  ·rw[bY 0 (by omega),bk (by omega)]; rfl
 ·have hb:b.length<=i:=by omega
  rw[cI hb,bY 0 (by omega),bX (by omega),bk (by omega)]; rfl
theorem S.cmp_isNaN_int(a:Int):aj Tryz.prog 87 [.int a] (.bool false):=by
 refine aj.of Bd.cmp_isNaN_int (by simp) rfl rfl ?_;refine ak.bool ?_;simp
theorem S.cmp_Compare_int(a b:Int):aj Tryz.prog 57 [.int a,.int b] (.int (VB a b)):=by
 refine aj.of Bd.cmp_Compare_int (by simp) rfl rfl ?_;refine ah.pure (S.cmp_isNaN_int a) rfl ?_;refine ah.pure (S.cmp_isNaN_int b) rfl ?_;refine Fork.mk (fun h1=>by cases h1) (fun _=>?_);refine Fork.mk (fun h1=>by cases h1) (fun _=>?_);refine⟨fun h1=>?_,fun h1=>?_⟩
 ·conv=>whnf
  exact ak.int (by simp only[ag] at h1; simp[VB,h1])
 ·conv=>whnf
  simp only[am] at h1;refine⟨fun h2=>?_,fun h2=>?_⟩
  ·conv=>whnf
   exact ak.int (by simp only[ag] at h2; simp[VB,h1,h2])
  ·conv=>whnf
   exact ak.int (by simp only[am] at h2; simp[VB,h1,h2])
theorem S.Ls(a b:List Int)(ha:a.length<2^40)(hb:b.length<2^40):aj Tryz.prog 58 [.row 0 false (.ints a),.row 0 false (.ints b)] (.int (cmpL a b)):=by
 refine aj.of Bd.lK (by simp) rfl rfl ?_;refine aA.same [0,1,9,10] (fun i:Nat=>[(11,.int i)]) (fun i=>i<=a.length/\i<=b.length/\cmpL a b=cmpL (a.drop i) (b.drop i)) (fun i=>a.length-i) 0 rfl (by decide) rfl (fun _=>rfl) ⟨by omega,by omega,rfl⟩ ⟨⟨_,rfl,rfl⟩,trivial⟩ ?_;refine⟨rfl,?_⟩;rintro i ⟨hi,hj,he⟩;refine⟨fun h3=>?_,fun h3=>?_⟩
 ·have hi':i<a.length:=by simpa using h3
  refine .mk (by simp only[Rw.rng] at *; omega) ?_;refine⟨fun h4=>?_,fun h4=>?_⟩
  ·conv=>whnf
   have hb':b.length<=i:=by simpa using h4
   refine ak.int ?_;rw[he,Gm (.inr hb') hi hj,bX (by omega),bk (by omega)]
  ·have hb':i<b.length:=by simpa using h4
   refine .mk (by simp only[Rw.rng] at *; omega) ?_;refine ah.pure (S.cmp_Compare_int _ _) rfl ?_;rw[OC hi' hb'] at he;conv=>whnf
   simp only[ap];refine⟨fun h5=>?_,fun h5=>?_⟩
   ·conv=>whnf
    refine ak.int ?_;rw[he];simp only[bne_iff_ne,ne_eq] at h5 ⊢;generalize a.getD i 0=x at h5 ⊢;generalize b.getD i 0=y at h5 ⊢;unfold VB at h5 ⊢;by_cases h6:x<y
    ·simp[h6]
    ·by_cases h7:y<x
     ·simp[h6,h7]
     ·simp[h6,h7] at h5
   ·conv=>whnf
    refine .mk (by simp only[okI] at *; omega) ?_;conv=>whnf
    have h6: ¬ a.getD i 0<b.getD i 0/\ ¬ b.getD i 0<a.getD i 0:=by
     simp only[bne_eq_false_iff_eq] at h5;generalize a.getD i 0=x at h5 ⊢;generalize b.getD i 0=y at h5 ⊢;unfold VB at h5;by_cases h6:x<y
     ·simp[h6] at h5
     ·by_cases h7:y<x
      ·simp[h6,h7] at h5
      ·exact⟨h6,h7⟩
    refine⟨i+1,⟨by omega,by omega,by rw[he,bX h6.1,bX h6.2]⟩,by omega,⟨⟨_,rfl,rfl⟩,trivial⟩,?_,rfl⟩;repeat' (first|exact trivial|exact⟨_,rfl,rfl⟩|constructor)
 ·have hi':a.length<=i:=by simpa using h3
  refine⟨fun h4=>?_,fun h4=>?_⟩
  ·conv=>whnf
   refine ak.int ?_;rw[he,Gm (.inl hi') hi hj,bk (by simpa using h4)]
  ·conv=>whnf
   refine ak.int ?_
   have:b.length<=a.length:=by simpa using h4
   rw[he,Gm (.inl hi') hi hj,bX (by omega),bX (by omega)]
theorem S.xE(x y:Int)(f:Bool):aj Tryz.prog 56 [.row 0 f (.ints [x,y])] (.int (if x≠0 then x else y)):=by
 refine aj.of Bd.xE (by simp) rfl rfl ?_;refine aA.same [3,6,7] (fun i:Nat=>[(8,.int i)]) (fun i=>i<=2/\(0<i->x=0)/\(1<i->y=0)) (fun i=>2-i) 0 rfl (by decide) rfl (fun _=>rfl) ⟨by omega,by omega,by omega⟩ ⟨⟨_,rfl,rfl⟩,trivial⟩ ?_;refine⟨rfl,?_⟩;rintro i ⟨hi,h0,h1⟩;refine⟨fun h3=>?_,fun h3=>?_⟩
 ·have hi':i<2:=by simp at h3; omega
  refine .mk (by simp only[Rw.rng,bL,cD]; omega) ?_;refine⟨fun h4=>?_,fun h4=>?_⟩
  ·conv=>whnf
   refine ak.int ?_;simp only[ap,bne_iff_ne,ne_eq] at h4 ⊢;by_cases e:i=0
   ·subst e; simp at h4 ⊢; simp[h4]
   ·have:i=1:=by omega
    subst this; simp at h4 ⊢; simp[h0]
  ·conv=>whnf
   refine .mk (by simp only[okI] at *; omega) ?_;refine⟨i+1,⟨by omega,fun _=>?_,fun hlt=>?_⟩,by omega,⟨⟨_,rfl,rfl⟩,trivial⟩,?_,rfl⟩
   ·by_cases e:i=0
    ·subst e; simpa using h4
    ·exact h0 (by omega)
   ·have:i=1:=by omega
    subst this; simpa using h4
   ·repeat' (first|exact trivial|exact⟨_,rfl,rfl⟩|constructor)
 ·have:i=2:=by simp at h3; omega
  subst this;refine ak.int ?_;simp[h0,h1]
theorem S.jh(a b:Elem)(ha:a.counts.length<2^40)(hb:b.counts.length<2^40):aj Tryz.prog 30 [.dat (.elem a),.dat (.elem b)] (.int (gY a b)):=by
 refine aj.of Bd.jh (by simp) rfl rfl ?_;refine ah.pure (S.cmp_Compare_int a.value b.value) rfl ?_;refine ah.pure (S.Ls a.counts b.counts ha hb) rfl ?_;refine ah.pure (S.xE _ _ true) rfl ?_;refine ak.int ?_;unfold gY VB;by_cases h6:a.value<b.value
 ·simp[h6]
 ·by_cases h7:b.value<a.value
  ·simp[h6,h7]
  ·simp[h6,h7]
theorem S.Gn(a b:Elem)(ha:a.counts.length<2^40)(_hb:b.counts.length<2^40):aj Tryz.prog 95 [.dat (.elem a),.dat (.elem b)] (.bool (kL a b)):=by
 refine aj.of Bd.Gn (by simp) rfl rfl ?_;repeat(refine VC.mk (by first|exact id|exact fun h=>⟨h,h⟩|(intro h; rw[h]; rfl)) ?_)
 refine⟨fun h1=>?_,fun h1=>?_⟩
 ·conv=>whnf
  refine ak.bool ?_;by_cases hv:a.value=b.value
  ·have:ny a.counts b.counts=false:=by
    rw[ek]; intro h; rw[nC] at h; simp[hv,h.1] at h1
   simp[kL,this]
  ·simp[kL,hv]
 ·have h2:a.value=b.value/\a.counts.length=b.counts.length:=by
   by_cases hv:a.value=b.value
   ·simp[hv] at h1; exact⟨hv,by omega⟩
   ·simp[hv] at h1
  refine aA.same [2,3] (fun i:Nat=>[(5,.int i)]) (fun i=>i<=a.counts.length/\ ∀ j,j<i->a.counts.getD j 0<=b.counts.getD j 0) (fun i=>a.counts.length-i) 0 rfl (by decide) rfl (fun _=>rfl) ⟨by omega,fun j hj=>by omega⟩ ⟨⟨_,rfl,rfl⟩,trivial⟩ ?_;refine⟨rfl,?_⟩;rintro i ⟨hi,hall⟩;refine⟨fun h3=>?_,fun h3=>?_⟩
  ·have hi':i<a.counts.length:=by simpa using h3
   repeat(refine VC.mk (by simp only[Rw.rng] at *; omega) ?_)
   refine⟨fun h4=>?_,fun h4=>?_⟩
   ·conv=>whnf
    refine ak.bool ?_
    have:ny a.counts b.counts=false:=by
     rw[ek]; intro h; rw[nC] at h; have:=h.2 i hi'; simp only[ap,ag] at h4; omega
    simp[kL,this]
   ·conv=>whnf
    refine .mk (by simp only[okI] at *; omega) ?_;refine⟨i+1,⟨by omega,fun j hj=>?_⟩,by omega,⟨⟨_,rfl,rfl⟩,trivial⟩,?_,rfl⟩
    ·by_cases e:j=i
     ·subst e; simp only[ap,am] at h4; omega
     ·exact hall j (by omega)
    ·repeat' (first|exact trivial|exact⟨_,rfl,rfl⟩|constructor)
  ·conv=>whnf
   refine ak.bool ?_;have hi':a.counts.length<=i:=by simpa using h3
   rw[cK]; simp only[kL,aD,bv,iff_true];exact⟨h2.1,nC.2 ⟨h2.2,fun j hj=>hall j (by omega)⟩⟩
def dS(l:List Elem):Prop:= ∀ e∈l,e.counts.length<2^40
theorem dS.get{l:List Elem}(h:dS l)(i:Nat):(l.getD i default).counts.length<2^40:=by
 rw[aR];cases e:l[i]? with
 |none=>show([]:List Int).length<2^40; decide
 |some x=>exact h x (ce e)
theorem jU{α:Type}{l:List α}{p:α->Bool}{d:α}{i:Nat}(hi:i<l.length)(h:(l.take i).any p=false):(l.take (i+1)).any p=p (l.getD i d):=by
 rw[cR,dq,h,cr];simp[hi]
theorem iE{α:Type}{l:List α}{p:α->Bool}{d:α}{i:Nat}(hi:i<l.length)(h:p (l.getD i d)=true):l.any p=true:=by
 rw[bw];exact⟨l[i],be hi,by simpa [hi] using h⟩
theorem S.jW(l:List Elem)(e:Elem)(f:Bool)(hl:l.length<2^40)(hs:dS l)(he:e.counts.length<2^40):aj Tryz.prog 41 [.row 3 f (.elems l),.dat (.elem e)] (.bool (l.any fun b=>kL b e)):=by
 refine aj.of Bd.jW (by simp) rfl rfl ?_;refine aA.same [3,7,8] (fun i:Nat=>[(9,.int i)]) (fun i=>i<=l.length/\(l.take i).any (fun b=>kL b e)=false) (fun i=>l.length-i) 0 rfl (by decide) rfl (fun _=>rfl) ⟨by omega,by simp⟩ ⟨⟨_,rfl,rfl⟩,trivial⟩ ?_;refine⟨rfl,?_⟩;rintro i ⟨hi,hall⟩;refine⟨fun h3=>?_,fun h3=>?_⟩
 ·have hi':i<l.length:=by simpa using h3
  refine .mk (by simp only[Rw.rng] at *; omega) ?_;refine ah.pure (S.wI _ _ (by simpa using hs.get i) he) rfl ?_;refine⟨fun h4=>?_,fun h4=>?_⟩
  ·conv=>whnf
   refine ak.bool ?_;simp only[ap] at h4;exact iE hi' h4
  ·conv=>whnf
   refine .mk (by simp only[okI] at *; omega) ?_;conv=>whnf
   simp only[ap] at h4;refine⟨i+1,⟨by omega,by rw[jU hi' hall]; exact h4⟩,by omega,⟨⟨_,rfl,rfl⟩,trivial⟩,?_,rfl⟩;repeat' (first|exact trivial|exact⟨_,rfl,rfl⟩|constructor)
 ·conv=>whnf
  refine ak.bool ?_;have hi':l.length<=i:=by simpa using h3
  rw[bB hi'] at hall; exact hall
theorem S.mP(l:List Elem)(e:Elem)(f:Bool)(hl:l.length<2^40)(hs:dS l)(he:e.counts.length<2^40):aj Tryz.prog 67 [.row 3 f (.elems l),.dat (.elem e)] (.bool (l.any fun b=>kL b e)):=by
 refine aj.of Bd.mP (by simp) rfl rfl ?_;refine aA.same [0,3] (fun i:Nat=>[(5,.int i)]) (fun i=>i<=l.length/\(l.take i).any (fun b=>kL b e)=false) (fun i=>l.length-i) 0 rfl (by decide) rfl (fun _=>rfl) ⟨by omega,by simp⟩ ⟨⟨_,rfl,rfl⟩,trivial⟩ ?_;refine⟨rfl,?_⟩;rintro i ⟨hi,hall⟩;refine⟨fun h3=>?_,fun h3=>?_⟩
 ·have hi':i<l.length:=by simpa using h3
  refine .mk (by simp only[Rw.rng] at *; omega) ?_;refine ah.pure (S.Gn _ _ (by simpa using hs.get i) he) rfl ?_;refine⟨fun h4=>?_,fun h4=>?_⟩
  ·conv=>whnf
   refine ak.bool ?_;simp only[ap] at h4;exact iE hi' h4
  ·conv=>whnf
   refine .mk (by simp only[okI] at *; omega) ?_;conv=>whnf
   simp only[ap] at h4;refine⟨i+1,⟨by omega,by rw[jU hi' hall]; exact h4⟩,by omega,⟨⟨_,rfl,rfl⟩,trivial⟩,?_,rfl⟩;repeat' (first|exact trivial|exact⟨_,rfl,rfl⟩|constructor)
 ·conv=>whnf
  refine ak.bool ?_;have hi':l.length<=i:=by simpa using h3
  rw[bB hi'] at hall; exact hall
theorem S.zJ(a b:List Int)(ha:a.length<2^40)(hb:b.length<2^40):aj Tryz.prog 39 [.row 0 false (.ints a),.row 0 false (.ints b)] (.int (cmpL a b)):=by
 refine aj.of Bd.zJ (by simp) rfl rfl ?_;refine aA.same [0,1] (fun i:Nat=>[(5,.int i)]) (fun i=>i<=a.length/\i<=b.length/\cmpL a b=cmpL (a.drop i) (b.drop i)) (fun i=>a.length-i) 0 rfl (by decide) rfl (fun _=>rfl) ⟨by omega,by omega,rfl⟩ ⟨⟨_,rfl,rfl⟩,trivial⟩ ?_;refine⟨rfl,?_⟩;rintro i ⟨hi,hj,he⟩;repeat(refine VC.mk (by first|exact id|exact fun h=>⟨h,h⟩) ?_)
 refine⟨fun h3=>?_,fun h3=>?_⟩
 ·have hi':i<a.length/\i<b.length:=by
   by_cases h:i<a.length
   ·simp[h] at h3; exact⟨h,by omega⟩
   ·simp[h] at h3
  rw[OC hi'.1 hi'.2] at he;obtain⟨hi1,hi2⟩:=hi';repeat(refine VC.mk (by simp only[Rw.rng] at *; omega) ?_)
  refine⟨fun h5=>?_,fun h5=>?_⟩
  ·conv=>whnf
   refine ak.int ?_;simp only[ap,ag] at h5;rw[he,bk h5]
  ·conv=>whnf
   repeat(refine VC.mk (by simp only[Rw.rng] at *; omega) ?_)
   simp only[ap,am] at h5;refine⟨fun h6=>?_,fun h6=>?_⟩
   ·conv=>whnf
    refine ak.int ?_;simp only[ap,ag] at h6;rw[he,bX h5,bk h6]
   ·conv=>whnf
    refine .mk (by simp only[okI] at *; omega) ?_;conv=>whnf
    simp only[ap,am] at h6;refine⟨i+1,⟨by omega,by omega,by rw[he,bX h5,bX h6]⟩,by omega,⟨⟨_,rfl,rfl⟩,trivial⟩,?_,rfl⟩;repeat' (first|exact trivial|exact⟨_,rfl,rfl⟩|constructor)
 ·have hi':a.length<=i\/b.length<=i:=by
   by_cases h:i<a.length
   ·simp[h] at h3; exact .inr (by omega)
   ·exact .inl (by omega)
  have hx:=Gm hi' hi hj;rw[<- he] at hx;refine⟨fun h4=>?_,fun h4=>?_⟩
  ·conv=>whnf
   refine ak.int ?_;rw[hx,bk (by simpa using h4)]
  ·conv=>whnf
   have h5: ¬ a.length<b.length:=by simpa using h4
   refine⟨fun h6=>?_,fun h6=>?_⟩
   ·conv=>whnf
    refine ak.int ?_;rw[hx,bX h5,bk (by simpa using h6)]
   ·conv=>whnf
    refine ak.int ?_;rw[hx,bX h5,bX (by simpa using h6)]
theorem S.o8(a b:Elem)(ha:a.counts.length<2^40)(hb:b.counts.length<2^40):aj Tryz.prog 18 [.dat (.elem a),.dat (.elem b)] (.int (gY a b)):=by
 refine aj.of Bd.o8 (by simp) rfl rfl ?_;refine⟨fun h1=>?_,fun h1=>?_⟩
 ·conv=>whnf
  exact ak.int (by simp only[ag] at h1; simp[gY,h1])
 ·conv=>whnf
  simp only[am] at h1;refine⟨fun h2=>?_,fun h2=>?_⟩
  ·conv=>whnf
   exact ak.int (by simp only[ag] at h2; simp[gY,h1,h2])
  ·simp only[am] at h2;refine ah.pure (S.zJ a.counts b.counts ha hb) rfl ?_;exact ak.int (by simp[gY,h1,h2])
theorem cmpL_eq: ∀ {a b:List Int},cmpL a b=0↔a=b:=by
 intro a;induction a with
 |nil=>intro b; cases b<;>simp[cmpL]
 |cons x a ih =>
  intro b;cases b with
  |nil=>simp[cmpL]
  |cons y b =>
   simp only[cmpL];split
   ·simp; omega
   ·split
    ·simp; omega
    ·rw[ih]; simp; intro _; omega
theorem jO{a b:Elem}:gY a b=0↔a=b:=by
 obtain⟨v,c⟩:=a; obtain⟨w,d⟩:=b;simp only[gY];split
 ·simp; omega
 ·split
  ·simp; omega
  ·rw[cmpL_eq]; simp; intro _; omega
theorem S.uT(a b:List Elem)(f g:Bool)(ha:a.length<2^40)(hb:b.length<2^40)(sa:dS a)(sb:dS b):aj Tryz.prog 9 [.row 3 f (.elems a),.row 3 g (.elems b)] (.bool (decide (a=b))):=by
 refine aj.of Bd.uT (by simp) rfl rfl ?_;refine⟨fun h1=>?_,fun h1=>?_⟩
 ·conv=>whnf
  refine ak.bool ?_;refine cF ?_;simp at h1;rintro rfl; exact h1 rfl
 ·have hlen:a.length=b.length:=by simp at h1; omega
  refine aA.same [0,1] (fun i:Nat=>[(5,.int i)]) (fun i=>i<=a.length/\a.take i=b.take i) (fun i=>a.length-i) 0 rfl (by decide) rfl (fun _=>rfl) ⟨by omega,by simp⟩ ⟨⟨_,rfl,rfl⟩,trivial⟩ ?_;refine⟨rfl,?_⟩;rintro i ⟨hi,hall⟩;refine⟨fun h3=>?_,fun h3=>?_⟩
  ·have hi':i<a.length:=by simpa using h3
   repeat(refine VC.mk (by simp only[Rw.rng] at *; omega) ?_)
   refine ah.pure (S.o8 _ _ (by simpa using sa.get i) (by simpa using sb.get i)) rfl ?_;refine⟨fun h4=>?_,fun h4=>?_⟩
   ·conv=>whnf
    refine ak.bool ?_;refine cF ?_;rintro rfl;simp only[ap,bne_iff_ne,ne_eq] at h4;exact h4 (jO.2 rfl)
   ·conv=>whnf
    refine .mk (by simp only[okI] at *; omega) ?_;conv=>whnf
    simp only[ap,bne_eq_false_iff_eq] at h4;rw[jO] at h4;refine⟨i+1,⟨by omega,?_⟩,by omega,⟨⟨_,rfl,rfl⟩,trivial⟩,?_,rfl⟩
    ·rw[cR,cR,hall]
     congr 1
     have hb':i<b.length:=by omega
     simp only[aR,bN hi',bN hb',eA] at h4;simp[hi',hb',h4]
    ·repeat' (first|exact trivial|exact⟨_,rfl,rfl⟩|constructor)
  ·conv=>whnf
   refine ak.bool ?_;have hi':a.length<=i:=by simpa using h3
   rw[bB hi',bB (by omega)] at hall;symm; simpa using hall
def zu(n:Int):Bool:=decide (0<=n)&&decide (n<=1048576)
theorem S.lq(l:List Int)(f:Bool)(hl:l.length<2^40):aj Tryz.prog 31 [.row 0 f (.ints l)] (.bool (l.all zu)):=by
 refine aj.of Bd.lq (by simp) rfl rfl ?_;refine aA.same [5,6] (fun i:Nat=>[(7,.int i)]) (fun i=>i<=l.length/\(l.take i).all zu=true) (fun i=>l.length-i) 0 rfl (by decide) rfl (fun _=>rfl) ⟨by omega,by simp⟩ ⟨⟨_,rfl,rfl⟩,trivial⟩ ?_;refine⟨rfl,?_⟩;rintro i ⟨hi,hall⟩;refine⟨fun h3=>?_,fun h3=>?_⟩
 ·have hi':i<l.length:=by simpa using h3
  repeat(refine VC.mk (by first|exact id|(intro h; rw[h]; rfl)|(simp only[Rw.rng] at *; omega)) ?_)
  refine⟨fun h4=>?_,fun h4=>?_⟩
  ·conv=>whnf
   refine ak.bool ?_;simp only[ap] at h4;have h5:zu (l.getD i 0)=false:=by
    have key: ∀ x:Int,(decide (x<0)||decide (1048576<x))=true->zu x=false:=by
     intro x h4;unfold zu;by_cases h0:x<0
     ·simp; omega
     ·simp[h0] at h4; simp; omega
    exact key _ h4
   rw[ek];intro h;rw[bu] at h;have:=h l[i] (be hi');rw[show l.getD i 0=l[i] by simp[hi']] at h5;rw[this] at h5; cases h5
  ·conv=>whnf
   refine .mk (by simp only[okI] at *; omega) ?_;conv=>whnf
   simp only[ap] at h4;refine⟨i+1,⟨by omega,?_⟩,by omega,⟨⟨_,rfl,rfl⟩,trivial⟩,?_,rfl⟩
   ·have h5:zu (l.getD i 0)=true:=by
     have key: ∀ x:Int,(decide (x<0)||decide (1048576<x))=false->zu x=true:=by
      intro x h4;unfold zu;by_cases h0:x<0
      ·simp[h0] at h4
      ·simp[h0] at h4; simp; omega
     exact key _ h4
    rw[cR,List.all_append,hall];simpa [hi'] using h5
   ·repeat' (first|exact trivial|exact⟨_,rfl,rfl⟩|constructor)
 ·conv=>whnf
  refine ak.bool ?_;have hi':l.length<=i:=by simpa using h3
  rw[bB hi'] at hall; exact hall
def dL(e:Elem):Int:=if 6<e.counts.length then 0 else if e.counts.all zu=true then e.counts.sum else 0
theorem zH: ∀ {l:List Int},l.all zu=true->0<=l.sum/\l.sum<=l.length*1048576:=by
 intro l;induction l with
 |nil=>intro _; simp
 |cons x l ih =>
  intro h;simp only[gR,aD,zu,ag] at h;have:=ih h.2;simp only[eW,bL];omega
theorem Sl{l:List Int}(h:l.all zu=true)(i:Nat):(l.take i).all zu=true:=by
 rw[bu] at h ⊢;exact fun x hx=>h x (cU hx)
theorem Sm{l:List Int}{i:Nat}(hi:i<l.length):(l.take (i+1)).sum=(l.take i).sum+l.getD i 0:=by
 rw[cR,List.sum_append]; simp[hi]
theorem S.oZ(e:Elem)(hl:e.counts.length<2^40):aj Tryz.prog 13 [.dat (.elem e)] (.int (dL e)):=by
 refine aj.of Bd.oZ (by simp) rfl rfl ?_;repeat(refine VC.mk id ?_)
 refine ah.gW (fun _=>S.lq e.counts false hl) rfl ?_;repeat(refine VC.mk (by first|exact id|(intro h; rw[h]; rfl)) ?_)
 refine⟨fun h1=>?_,fun h1=>?_⟩
 ·conv=>whnf
  refine ak.int ?_;unfold dL;by_cases h:6<e.counts.length
  ·rw[bk h]
  ·rw[bX h,bX];have h': ¬ (6:Int)<e.counts.length:=by omega
   simp[h'] at h1;intro hh;rw[bu] at hh;obtain⟨x,hx,hx'⟩:=h1;exact absurd (hh x hx) (by simp[hx'])
 ·have h2: ¬ 6<e.counts.length/\e.counts.all zu=true:=by
   by_cases h:(6:Int)<e.counts.length
   ·simp[h] at h1
   ·simp[h] at h1;exact⟨by omega,by rw[bu]; exact h1⟩
  refine aA.same [17,18] (fun i:Nat=>[(19,.int i),(3,.int (e.counts.take i).sum)]) (fun i=>i<=e.counts.length) (fun i=>e.counts.length-i) 0 rfl (by decide) rfl (fun _=>rfl) (by omega) ⟨⟨_,rfl,rfl⟩,⟨_,rfl,rfl⟩,trivial⟩ ?_;refine⟨rfl,?_⟩;rintro i hi;have hb:=zH (Sl h2.2 i);have hb':((e.counts.take i).length:Int)<=6:=by simp; omega
  refine⟨fun h3=>?_,fun h3=>?_⟩
  ·have hi':i<e.counts.length:=by simpa using h3
   have hs:=Sm hi';have hc:=zH (Sl h2.2 (i+1));have hc':((e.counts.take (i+1)).length:Int)<=6:=by simp; omega
   repeat(refine VC.mk (by first|(simp only[okI,ap] at *; rw[<- hs]; omega)|(simp only[okI,Rw.rng] at *; omega)) ?_)
   refine⟨i+1,by omega,by omega,⟨⟨_,rfl,rfl⟩,⟨_,rfl,?_⟩,trivial⟩,?_,rfl⟩
   ·rw[hs]; simp[V.aH,sK]
   ·repeat' (first|exact trivial|exact⟨_,rfl,rfl⟩|constructor)
  ·conv=>whnf
   refine ak.int ?_;have hi':e.counts.length<=i:=by simpa using h3
   rw[bB hi'];simp[dL,h2.1,h2.2]
def y7(x y:Elem):Bool:=kL y x&&(gY y x !=0)
theorem S.lM(x y:Elem)(d:Bool)(hx:x.counts.length<2^40)(hy:y.counts.length<2^40):aj Tryz.prog 80 [.agg [.int x.value,.row 0 false (.ints x.counts),.bool d],.dat (.elem y)] (.bool (y7 x y)):=by
 refine aj.of Bd.lM (by simp) rfl rfl ?_;refine ah.pure (S.wI y x hy hx) rfl ?_;repeat(refine VC.mk (by first|exact id|exact fun h=>⟨h,h⟩) ?_)
 refine ah.gW (fun _=>S.jh y x hy hx) rfl ?_;repeat(refine VC.mk id ?_)
 refine ak.bool ?_;cases h:kL y x<;>simp[y7,h]
def adG(p:Elem->Bool)(l:List Elem):Int:=if l.any p=true then(l.findIdx p:Int) else -1
theorem NT{p:Elem->Bool}{l:List Elem}{i:Nat}(hi:i<l.length)(h0:(l.take i).any p=false)(h1:p (l.getD i default)=true):l.findIdx p=i:=by
 rw[List.findIdx_eq hi];refine⟨by simpa [hi] using h1,fun j hj=>?_⟩;rw[co] at h0;have:=h0 l[j] (by rw[dz]; exact⟨j,by omega,rfl⟩);simpa using this
theorem S.VD(l:List Elem)(x:Elem)(d f:Bool)(hl:l.length<2^40)(hs:dS l)(hx:x.counts.length<2^40) :
  aj Tryz.prog 113 [.row 3 f (.elems l),.fn (80+4096) [.int x.value,.row 0 false (.ints x.counts),.bool d]] (.int (adG (y7 x) l)):=by
 refine aj.of Bd.fB (by simp) rfl rfl ?_;refine aA.same [0,1,6,7] (fun i:Nat=>[(8,.int i)]) (fun i=>i<=l.length/\(l.take i).any (y7 x)=false) (fun i=>l.length-i) 0 rfl (by decide) rfl (fun _=>rfl) ⟨by omega,by simp⟩ ⟨⟨_,rfl,rfl⟩,trivial⟩ ?_;refine⟨rfl,?_⟩;rintro i ⟨hi,hall⟩;refine⟨fun h3=>?_,fun h3=>?_⟩
 ·have hi':i<l.length:=by simpa using h3
  refine .mk (by simp only[Rw.rng] at *; omega) ?_;refine ah.pure (S.lM x (l.getD i default) d hx (hs.get i)) rfl ?_;refine⟨fun h4=>?_,fun h4=>?_⟩
  ·conv=>whnf
   refine ak.int ?_;rw[adG,bk (iE hi' h4),NT hi' hall h4]
  ·conv=>whnf
   refine .mk (by simp only[okI] at *; omega) ?_;refine⟨i+1,⟨by omega,by rw[jU hi' hall]; exact h4⟩,by omega,⟨⟨_,rfl,rfl⟩,trivial⟩,?_,rfl⟩;repeat' (first|exact trivial|exact⟨_,rfl,rfl⟩|constructor)
 ·conv=>whnf
  refine ak.int ?_;have hi':l.length<=i:=by simpa using h3
  rw[bB hi'] at hall;rw[adG,hall]; rfl
theorem S.NU(l:List Elem)(x:Elem)(d f:Bool)(hl:l.length<2^40)(hs:dS l)(hx:x.counts.length<2^40) :
  aj Tryz.prog 81 [.row 3 f (.elems l),.fn (80+4096) [.int x.value,.row 0 false (.ints x.counts),.bool d]] (.bool (l.any (y7 x))):=by
 refine aj.of Bd.eG (by simp) rfl rfl ?_;refine ah.pure (S.VD l x d f hl hs hx) rfl ?_;refine ak.bool ?_;unfold adG;cases h:l.any (y7 x)
 ·simp
 ·simp
theorem S.nX(a b:Elem)(ha:a.counts.length<2^40)(hb:b.counts.length<2^40):aj Tryz.prog 86 [.dat (.elem a),.dat (.elem b)] (.bool (decide (a=b))):=by
 refine aj.of Bd.nX (by simp) rfl rfl ?_;refine ah.pure (S.jh a b ha hb) rfl ?_;refine ak.bool ?_;rw[cK]; simp only[ag,bv];exact jO.symm
theorem ak.elem{e:Elem}{n ty:Nat}{h:Hz}(q:h.get n=some (.row ty 0 (.ints e.counts) [])):ak (.dat (.elem e)) (.agg [.int e.value,.own n]) h:=⟨by
 show T.sub (fun _=>True) h.ay (gB e) (.agg [.int e.value,.own n]);simp only[gB,T.sub,T.dF,and_true];refine⟨trivial,trivial,trivial,?_,by decide,ty,?_⟩
 ·rw[gq]; intro t ht; obtain⟨x,_,rfl⟩:=av.1 ht; rfl
 ·have:=aO q; simpa [OV.au,Rw.aU,V.aU] using this⟩
theorem S.CJ(e:Elem)(he:e.counts.length<2^40):aj Tryz.prog 96 [.dat (.elem e)] (.dat (.elem e)):=by
 refine aj.of Bd.CJ (by simp) rfl rfl ?_;refine .mk (by simp only[jy,jK,Rw.len]; omega) ?_;exact ak.elem (ty:=3) rfl
theorem S.kV(e:Elem)(d:Bool)(he:e.counts.length<2^40):aj Tryz.prog 82 [.agg [.int e.value,.row 0 false (.ints e.counts),.bool d]] (.dat (.elem e)):=by
 refine aj.of Bd.kV (by simp) rfl rfl ?_;refine .mk (by simp only[jy,jK,Rw.len]; omega) ?_;exact ak.elem (ty:=3) rfl
theorem ah.lend{P:Program}{dr:Bool}{f:FuncId}{args args':List V}{res:V}{h:Hz}{n:Nat}{K:V->Hz->Prop}{KW:Nat->V->Hz->Prop}(S:aj P f args' res)(hs:T.dF (fun _=>True) h.ay (V.aU args') (V.aU args))(hh:res.aH.hard=true)(hr:res.free=true)(hK:K res h):ah P dr none f args h n K KW :=
 ⟨.inl (CO.lend S hs hh (fun _ e=>by cases e) ⟨res,h,rfl,rfl,fun _=>⟨rfl,V.o9 res hr⟩,hK⟩)⟩
theorem EW(l:List Elem):T.bW (l.map gB)=true:=by
 rw[gq]; intro t ht; obtain⟨x,_,rfl⟩:=av.1 ht; rfl
theorem dJ.of_eq{a b:List T}(h:a=b):dJ a b:=by subst h; exact .refl _
theorem ah.afq{P:Program}{dr b:Bool}{f:FuncId}{args args':List V}{res:V}{h:Hz}{n:Nat}{K:V->Hz->Prop}{KW:Nat->V->Hz->Prop}(S:b=true->aj P f args' res)(hs:b=true->T.dF (fun _=>True) h.ay (V.aU args') (V.aU args))(hh:res.aH.hard=true)(hr:res.free=true)(hK:K res h):ah P dr (some b) f args h n K KW :=
 ⟨.inl (.inl ⟨res,fun e=>CO.lend (S e) (hs e) hh (fun _ e=>by cases e) ⟨rfl,rfl⟩,hr,hK⟩)⟩
abbrev aZ(l:List Elem):OV:=.row 50 3 (.elems l) []
theorem CG{h:Hz}{j:Nat}{l:List Elem}{Z:Nat->Prop}(hz:Z j)(q:h.get j=some (aZ l)):T.sub Z h.ay (V.row 3 false (.elems l)).aH (V.own j).aH:=by
 show T.sub Z h.ay (.sl 3 false (l.map gB)) (.own j);simp only[T.sub];refine⟨trivial,hz,EW l,by decide,50,?_⟩;have:=aO q; simpa [OV.au,Rw.aU,V.aU] using this
theorem ak.aaP{h:Hz}{j:Nat}{l:List Elem}(q:h.get j=some (aZ l)):ak (.row 3 false (.elems l)) (.own j) h:=⟨CG trivial q⟩
def vO(l:List Elem)(e:Elem):Nat->Nat
 |0=>0
 |i+1=>if 0<gY (l.getD i default) e then vO l e i else i+1
def y5(l:List Elem)(e:Elem):Bool:=decide (0<vO l e l.length)&&decide (gY (l.getD (vO l e l.length-1) default) e=0)
def og(l:List Elem)(e:Elem):List Elem:=if y5 l e=true then l else l.take (vO l e l.length)++e::l.drop (vO l e l.length)
theorem Xy{l:List Elem}{e:Elem}: ∀ i,vO l e i<=i:=by
 intro i;induction i with
 |zero=>exact ba _
 |succ i ih=>simp only[vO]; split<;>omega
theorem aa2(i:Nat):((i:Int)-1).toNat=i-1:=by omega
theorem gtP{l:List Elem}{e:Elem}{i:Nat}:(decide ((0:Int)<i)&&decide (0<gY (l.getD ((i:Int)-1).toNat default) e))=true↔0<i/\0<gY (l.getD (i-1) default) e:=by
 rw[aa2,aD,ag,ag];exact⟨fun h=>⟨by omega,h.2⟩,fun h=>⟨by omega,h.2⟩⟩
theorem eqP{l:List Elem}{e:Elem}{i:Nat}:(decide ((0:Int)<i)&&(gY (l.getD ((i:Int)-1).toNat default) e==0))=(decide (0<i)&&decide (gY (l.getD (i-1) default) e=0)):=by
 rw[aa2];have h1:decide ((0:Int)<i)=decide (0<i):=decide_eq_decide.2 (by omega);rw[h1]; rfl
abbrev h1(l:List Elem):Hz:=[(0,some (aZ l))]
def Vl(l:List Elem)(k:Nat):List Elem:=l.take k++l.getD k default::l.drop k
theorem Xz(l:List Elem)(k:Nat):(Vl l k).length=l.length+1:=by simp[Vl]; omega
theorem aa3{l:List Elem}{k:Nat}(h:k<=l.length)(x:Elem):(Vl l k).set k x=l.take k++x::l.drop k:=by
 unfold Vl;rw[gM _ _ (by simp; omega)];simp[Nat.min_eq_left h]
theorem adH{l:List Elem}{k:Nat}(h:k<l.length):(Vl l (k+1)).getD k default=l.getD k default:=by
 unfold Vl;rw[aR,cn (by simp; omega),cX (by omega),aR]
theorem aa4{l:List Elem}{k:Nat}(h:k<l.length):(Vl l (k+1)).set (k+1) ((Vl l (k+1)).getD k default)=Vl l k:=by
 rw[aa3 (by omega),adH h];unfold Vl;rw[cR,ax,bY default h]
 congr 1
 simp[h]
theorem zero_sub(l:List Elem):dJ (aZ (Vl l l.length)).au.l (OV.row 50 3 (.elems l) [V.agg (ofL [T.int 0,T.nil])]).au.l:=by
 intro Z h;have e:(aZ (Vl l l.length)).au.l=l.map gB++[gB default]:=by
  simp[OV.au,Rw.aU,V.aU,Vl]
 rw[e];refine yO (dK _) ?_;refine⟨?_,trivial⟩;show T.sub Z h (.agg [.int 0,.sl 0 false []]) (.agg [.int 0,.sl 0 true []]);simp[T.sub,T.dF]
theorem VA{l:List Elem}{n:Nat}(hn:0<n):Hz.get n (h1 l)=none:=by
 show(bif Nat.beq 0 n then some (aZ l) else none)=none;rw[ahh,bX (by omega)]
theorem S.rC(l:List Elem)(e:Elem)(n:Nat)(hn:0<n)(hl:l.length<2^30)(hs:dS l)(he:e.counts.length<2^30) :
  aP Tryz.prog 68 (V.aU [.own 0,.dat (.elem e)]) (h1 l).ay n (fun t hp=>(y5 l e=true/\t= .own 0/\hp=(h1 l).ay)\/(y5 l e=false/\t= .own n/\hp=Hz.ay [(n,some (aZ (og l e)))])):=by
 refine oJ.of (nx:=1) Bd.rC (by simp) ?_ rfl rfl ?_
 ·cases h:y5 l e
  ·exact⟨_,_,.inr ⟨rfl,rfl,rfl⟩⟩
  ·exact⟨_,_,.inl ⟨rfl,rfl,rfl⟩⟩
 refine aA.same [0,3] (fun i:Nat=>[(5,.int i)]) (fun i=>i<=l.length/\vO l e l.length=vO l e i) (fun i=>i) l.length rfl (by decide) rfl (fun _=>rfl) ⟨by omega,rfl⟩ ⟨⟨_,rfl,rfl⟩,trivial⟩ ?_;refine⟨rfl,?_⟩;rintro i ⟨hi,hpos⟩;repeat(refine VC.mk (by first|exact fun h=>⟨h,h⟩|(intro h; (repeat' apply And.intro)<;>first|exact h|omega|(simp only[Rw.qM]; omega)|(simp only[Rw.rng]; omega))|(simp only[Rw.rng] at *; first|omega|(simp_all; omega))) ?_)
 refine ah.gW (fun _=>S.o8 _ _ (by first|exact hs.get _|(have:=hs.get ((i:Int)-1).toNat; omega)) (by omega)) rfl ?_;repeat(refine VC.mk id ?_)
 refine⟨fun h3=>?_,fun h3=>?_⟩
 ·rw[gtP] at h3;obtain⟨h4,h5⟩:=h3;refine .mk (by simp only[okI] at *; first|omega|(simp_all; omega)) ?_;refine⟨i-1,⟨by omega,?_⟩,by omega,⟨⟨_,rfl,?_⟩,trivial⟩,?_,rfl⟩
  ·rw[hpos];obtain⟨k,rfl⟩: ∃ k,i=k+1:=⟨i-1,by omega⟩
   simp only[vO,Nat.add_sub_cancel] at h5 ⊢;rw[bk h5]
  ·show T.int ((i-1:Nat):Int)=T.int ((i:Int)-1)
   congr 2; omega
  ·repeat' (first|exact trivial|exact⟨_,rfl,rfl⟩|constructor)
 ·rw[ek,ne_eq,gtP] at h3;have hp:vO l e l.length=i:=by
   rw[hpos];cases i with
   |zero=>rfl
   |succ k=>simp only[vO]; rw[bX (fun h=>h3 ⟨by omega,by simpa using h⟩)]
  clear hpos h3;subst hp;repeat(refine VC.mk (by first|exact fun h=>⟨h,h⟩|(intro h; (repeat' apply And.intro)<;>first|exact h|omega|(simp only[Rw.qM]; omega)|(simp only[Rw.rng]; omega))|(simp only[Rw.rng] at *; first|omega|(simp_all; omega))) ?_)
  refine ah.gW (fun _=>S.o8 _ _ (hs.get _) (by omega)) rfl ?_;repeat(refine VC.mk id ?_)
  rw[eqP];refine⟨fun h3=>?_,fun h3=>?_⟩
  ·conv=>whnf
   refine iT.one (c:=0) (j:=0) (o:=aZ l) (t:=.own 0) rfl rfl rfl (fun _=>rfl) (.inl rfl) rfl (.eq rfl) (.inl ⟨h3,rfl,rfl⟩)
  ·conv=>whnf
   repeat(refine VC.mk (by first|(show(l.length+(0+1))*32<=140737488355328/\l.length+(0+1)<=1152921504606846976; omega)|(show okI ((l.length:Int)+((0+1:Nat):Int)-1); simp only[okI]; omega)) ?_)
   refine aA.objs 3 [3,5] (fun k:Nat=>[(0,.own 2),(6,.int k)]) (fun k=>[(1,.box 50 3 (.dat (.elem e))),(2,aZ (Vl l k))]) (fun k=>vO l e l.length<=k/\k<=l.length) (fun k=>k) l.length [1,33] rfl (by decide) (fun _=>rfl) ⟨hi,ba _⟩ ?_ ?_ ?_
   ·refine⟨⟨_,rfl,.eq rfl⟩,⟨_,rfl,.eq ?_⟩,trivial⟩;show T.int (l.length:Int)=T.int ((l.length:Int)+((0+1:Nat):Int)-1)
    congr 2; omega
   ·refine⟨dA rfl rfl,⟨rfl,nofun,rfl,rfl,rfl,_,rfl,rfl,rfl,zero_sub l⟩,trivial⟩
   ·conv=>whnf
    refine⟨(sR rfl),rfl,?_⟩;rintro k ⟨hk1,hk2⟩;refine⟨fun h4=>?_,fun h4=>?_⟩
    ·have h5:vO l e l.length<k:=by simpa using h4
     obtain⟨k,rfl⟩: ∃ j,k=j+1:=⟨k-1,by omega⟩
     have e1:((((k+1:Nat):Int))-1).toNat=k:=by omega
     have e2:(((k+1:Nat):Int)).toNat=k+1:=rfl;repeat(refine VC.mk (by simp only[Rw.rng,Xz,okI]; omega) ?_)
     refine⟨k,[1,2],⟨by omega,by omega⟩,by omega,⟨⟨_,rfl,.eq rfl⟩,⟨_,rfl,.eq ?_⟩,trivial⟩,(sR rfl),dA rfl rfl,⟨rfl,nofun,rfl,rfl,rfl,_,rfl,rfl,rfl,?_⟩,trivial⟩
     ·show T.int (k:Int)=T.int (((k+1:Nat):Int)-1)
      congr 2; omega
     ·rw[e1,e2,aa4 (by omega)]; exact .refl _
    ·have hk:k=vO l e l.length:=by
      have: ¬ vO l e l.length<k:=by simpa using h4
      omega
     clear h4;refine ah.pure (S.CJ e (by omega)) rfl ?_;repeat(refine VC.mk (by simp only[Rw.rng,Xz]; omega) ?_)
     refine iT.one (c:=n) (j:=2) (o:=aZ ((Vl l k).set (vO l e l.length:Int).toNat e)) (t:=.own n) rfl rfl rfl ?_ (.inr rfl) rfl (.eq rfl) (.inr ⟨h3,rfl,?_⟩)
     ·rw[VA hn]; intro h; cases h
     ·have:(Vl l k).set (vO l e l.length:Int).toNat e=og l e:=by
       rw[og,bX (by rw[show y5 l e=false from h3]; simp)];rw[hk]; exact aa3 (by omega) e
      rw[this]
def Lu(l:List Elem):List Elem:=l.foldl og []
def fJ(out:List Elem)(x:Elem):List Elem:=if(out.any fun b=>kL b x)=true then out else out++[x]
def y8(l:List Elem):List Elem:=(Lu l).foldl fJ []
theorem Sr{l:List Elem}{e:Elem}:(og l e).length<=l.length+1:=by
 unfold og; split
 ·omega
 ·simp; have:=Xy (l:=l) (e:=e) l.length; omega
theorem aa5{l:List Elem}{e x:Elem}(h:x∈og l e):x=e\/x∈l:=by
 unfold og at h; split at h
 ·exact .inr h
 ·simp only[cH,br] at h;rcases h with h|h|h
  ·exact .inr (cU h)
  ·exact .inl h
  ·exact .inr (gT h)
theorem rE{α β:Type}(f:β->α->β)(b:β){l:List α}{i:Nat}(d:α)(h:i<l.length):(l.take (i+1)).foldl f b=f ((l.take i).foldl f b) (l.getD i d):=by
 rw[cR,gS]; simp[h]
theorem Sv: ∀ (l acc:List Elem),(l.foldl og acc).length<=acc.length+l.length:=by
 intro l;induction l with
 |nil=>intro acc; simp
 |cons x l ih=>intro acc; simp only[fX,bL]; have:=ih (og acc x); have:=Sr (l:=acc) (e:=x); omega
theorem LC: ∀ (l acc:List Elem) (x:Elem),x∈l.foldl og acc->x∈acc\/x∈l:=by
 intro l;induction l with
 |nil=>intro acc x h; exact .inl h
 |cons y l ih =>
  intro acc x h;simp only[fX] at h;rcases ih _ _ h with h|h
  ·rcases aa5 h with h|h
   ·exact .inr (by simp[h])
   ·exact .inl h
  ·exact .inr (by simp[h])
theorem YQ{l:List Elem}{e:Elem}:(fJ l e).length<=l.length+1:=by
 unfold fJ; split
 ·omega
 ·simp
theorem Lp: ∀ (l acc:List Elem),(l.foldl fJ acc).length<=acc.length+l.length:=by
 intro l;induction l with
 |nil=>intro acc; simp
 |cons x l ih=>intro acc; simp only[fX,bL]; have:=ih (fJ acc x); have:=YQ (l:=acc) (e:=x); omega
theorem aa6: ∀ (l acc:List Elem) (x:Elem),x∈l.foldl fJ acc->x∈acc\/x∈l:=by
 intro l;induction l with
 |nil=>intro acc x h; exact .inl h
 |cons y l ih =>
  intro acc x h;simp only[fX] at h;rcases ih _ _ h with h|h
  ·unfold fJ at h; split at h
   ·exact .inl h
   ·simp only[cH,bl] at h;rcases h with h|h
    ·exact .inl h
    ·exact .inr (by simp[h])
  ·exact .inr (by simp[h])
theorem OD{l:List Elem}(h:dS l)(i:Nat):dS ((l.take i).foldl og []):=fun x hx=>by
 rcases LC _ _ _ hx with h'|h'
 ·cases h'
 ·exact h x (cU h')
theorem Au{l:List Elem}(h:dS l)(i:Nat):dS ((l.take i).foldl fJ []):=fun x hx=>by
 rcases aa6 _ _ _ hx with h'|h'
 ·cases h'
 ·exact h x (cU h')
def vM(l:List Elem):Prop:= ∀ e∈l,e.counts.length<2^30
theorem vM.e{l:List Elem}(h:vM l):dS l:=fun e he=>by have:=h e he; omega
theorem vM.get{l:List Elem}(h:vM l)(i:Nat):(l.getD i default).counts.length<2^30:=by
 rw[aR];cases e:l[i]? with
 |none=>show([]:List Int).length<2^30; decide
 |some x=>exact h x (ce e)
theorem S.kW(l:List Elem)(f:Bool)(hl:l.length<2^29)(hs:vM l):aj Tryz.prog 65 [.row 3 f (.elems l)] (.row 3 false (.elems (y8 l))):=by
 refine aj.of Bd.kW (by simp) rfl rfl ?_;refine aA.nil 3 50 3 (by rfl) rfl rfl rfl ?_;refine aA.objs 1 [0,4] (fun i:Nat=>[(5,.int i),(3,.own 0)]) (fun i=>[(0,aZ ((l.take i).foldl og []))]) (fun i=>i<=l.length) (fun i=>l.length-i) 0 [4] rfl (by decide) (fun _=>rfl) (ab _) ?_ ?_ ?_
 ·exact(sR rfl)
 ·exact⟨dA rfl rfl,trivial⟩
 refine⟨(sR rfl),rfl,?_⟩;rintro i hi;have hal:((l.take i).foldl og []).length<=i:=by
  have:=Sv (l.take i) [];simp at this; omega
 refine⟨fun h3=>?_,fun h3=>?_⟩
 ·have hi':i<l.length:=by simpa using h3
  refine .mk (by simp only[Rw.rng] at *; omega) ?_;refine ah.heap (S.rC _ _ _ (by decide) (by omega) (OD hs.e i) (hs.get i)) ?_;have hstep:=rE og [] (l:=l) default hi';rintro t hp (⟨hf,rfl,rfl⟩|⟨hf,rfl,rfl⟩)
  ·refine⟨.own 0,h1 _,rfl,rfl,?_⟩;refine .mk (by simp only[okI] at *; omega) ?_;refine⟨i+1,[0],by omega,by omega,(sR rfl),(sR rfl),⟨rfl,nofun,rfl,rfl,rfl,_,rfl,rfl,rfl,?_⟩,trivial⟩;rw[ap] at hf;rw[hstep,og,bk hf]; exact .refl _
  ·refine⟨.own _,[(_,some (aZ _))],rfl,rfl,?_⟩;refine .mk (by simp only[okI] at *; omega) ?_;refine⟨i+1,[10],by omega,by omega,(sR rfl),(sR rfl),⟨rfl,nofun,rfl,rfl,rfl,_,rfl,rfl,rfl,?_⟩,trivial⟩;rw[hstep]; exact .refl _
 ·have hi':l.length<=i:=by simpa using h3
  have hall:(l.take i).foldl og []=Lu l:=by rw[bB hi']; rfl
  have hsl:vM (Lu l):=fun x hx=>by
   rcases LC _ _ _ hx with h'|h'
   ·cases h'
   ·exact hs x h'
  rw[hall];rw[hall] at hal;generalize hA:Lu l=A at hal hsl ⊢;have hrm:y8 l=A.foldl fJ []:=by rw[y8,hA]
  rw[hrm];clear hall hA hrm h3;refine aA.nil 4 50 3 (by rfl) rfl rfl rfl ?_;refine aA.objs 2 [] (fun i:Nat=>[(6,.int i),(3,.own 0),(4,.own 1)]) (fun i=>[(0,aZ A),(1,aZ ((A.take i).foldl fJ []))]) (fun i=>i<=A.length) (fun i=>A.length-i) 0 [0,6] rfl (by decide) (fun _=>rfl) (ab _) ?_ ?_ ?_
  ·exact(sR rfl)
  ·exact⟨dA rfl rfl,dA rfl rfl,trivial⟩
  refine⟨trivial,rfl,?_⟩;rintro j hj;have hkl:((A.take j).foldl fJ []).length<=j:=by
   have:=Lp (A.take j) [];simp at this; omega
  refine⟨fun h3=>?_,fun h3=>?_⟩
  ·have hj':j<A.length:=by simpa using h3
   have hstep:=rE fJ [] (l:=A) default hj';repeat(refine VC.mk (by simp only[Rw.rng] at *; omega) ?_)
   refine ah.lend (S.mP _ (A.getD j default) false (by omega) (Au hsl.e j) (hsl.e.get j)) ⟨CG trivial rfl,aC _,trivial⟩ rfl rfl ?_;refine⟨fun h4=>?_,fun h4=>?_⟩
   ·conv=>whnf
    repeat(refine VC.mk (by first|(show(((A.take j).foldl fJ []).length+(0+1))*32<=140737488355328/\((A.take j).foldl fJ []).length+(0+1)<=1152921504606846976; omega)|(simp only[okI,Rw.rng] at *; omega)) ?_)
    refine⟨j+1,[0,19],by omega,by omega,(sR rfl),trivial,dA rfl rfl,⟨rfl,nofun,rfl,rfl,rfl,_,rfl,rfl,rfl,dJ.of_eq ?_⟩,trivial⟩;rw[hstep,fJ,bX (by simpa using h4)];show List.map gB _++[]=List.map gB _++[gB _];simp
   ·conv=>whnf
    refine .mk (by simp only[okI] at *; omega) ?_;refine⟨j+1,[0,1],by omega,by omega,(sR rfl),trivial,dA rfl rfl,⟨rfl,nofun,rfl,rfl,rfl,_,rfl,rfl,rfl,dJ.of_eq ?_⟩,trivial⟩;have h5:((A.take j).foldl fJ []).any (fun b=>kL b (A.getD j default))=true:=by simpa using h4
    rw[hstep,fJ,bk h5]
  ·conv=>whnf
   have hj':A.length<=j:=by simpa using h3
   have hA:A.take j=A:=bB hj';rw[hA];exact ak.aaP rfl
def uX(l:List Elem):Nat->List Elem
 |0=>[]
 |n+1=>if n=0\/l.getD n default≠l.getD (n-1) default then uX l n++[l.getD n default] else uX l n
theorem J7(l:List Elem): ∀ n,(uX l n).length<=n:=by
 intro n;induction n with
 |zero=>exact ba _
 |succ n ih =>
  simp only[uX]; split
  ·simp; omega
  ·omega
theorem adI{l:List Elem}{x:Elem}: ∀ {n},x∈uX l n->n<=l.length->x∈l:=by
 intro n;induction n with
 |zero=>intro h; cases h
 |succ n ih =>
  intro h hn;simp only[uX] at h;split at h
  ·rcases cH.1 h with h|h
   ·exact ih h (by omega)
   ·rw[bl] at h; subst h;simp[show n<l.length by omega]
  ·exact ih h (by omega)
abbrev zeroV:V:=.agg [.int 0,.row 0 true .nil]
def mid(l:List Elem)(j:Nat):List Elem:=uX l j++l.drop (uX l j).length
theorem adJ{l:List Elem}{j:Nat}(h:j<=l.length):(mid l j).length=l.length:=by
 have:=J7 l j;simp[mid]; omega
theorem XA{l:List Elem}{j i:Nat}(h:(uX l j).length<=i):(mid l j).getD i default=l.getD i default:=by
 unfold mid;rw[aR,ct h,cV,aR]
 congr 2; omega
theorem adK{l:List Elem}{j:Nat}(hj:j<l.length)(h:j=0\/l.getD j default≠l.getD (j-1) default):(mid l j).set (uX l j).length (l.getD j default)=mid l (j+1):=by
 have hl:=J7 l j;have e:uX l (j+1)=uX l j++[l.getD j default]:=by simp only[uX]; rw[bk h]
 unfold mid;rw[e,gM _ _ (ba _),fp,bY default (show(uX l j).length<l.length by omega)];simp
theorem Sz{l:List Elem}{j:Nat}(h0:j≠0)(h:l.getD j default=l.getD (j-1) default):uX l (j+1)=uX l j:=by
 simp only[uX]; rw[bX]; intro q; rcases q with q|q
 ·exact h0 q
 ·exact q h
theorem LD{l:List Elem}{k:Nat}(hk:k<=l.length)(h: ∀ i,0<i->i<k->l.getD i default≠l.getD (i-1) default):uX l k=l.take k:=by
 induction k with
 |zero=>rfl
 |succ k ih =>
  simp only[uX];rw[bk,ih (by omega) fun i h1 h2=>h i h1 (by omega),cR]
  ·simp[show k<l.length by omega]
  ·by_cases h0:k=0
   ·exact .inl h0
   ·exact .inr (h k (by omega) (by omega))
theorem Lr(l:List Elem)(m nx:Nat):(OV.row 50 3 (.elems l) (List.replicate m zeroV)).good nx=true:=by
 have h1:Gp 3 (List.replicate m zeroV)=true:=by
  induction m with
  |zero=>rfl
  |succ m ih=>simp only[em,Gp,ih,Bool.and_true]; rfl
 have h2:T.OE nx (V.aU (List.replicate m zeroV))=true:=by
  clear h1;induction m with
  |zero=>rfl
  |succ m ih=>simp only[em,V.aU,T.OE,ih,Bool.and_true]; rfl
 simp only[OV.good,h1,h2]; rfl
theorem F8(l:List Elem)(m:Nat):(OV.row 50 3 (.elems l) (List.replicate m zeroV)).DX=true:=by
 simp only[OV.DX];induction m with
 |zero=>rfl
 |succ m ih=>simp only[em,V.bW,ih,Bool.and_true]; rfl
def uY(l:List Elem):List Elem:=uX l l.length
theorem S.SA(l:List Elem)(n:Nat)(hl:l.length<2^30)(hs:dS l) :
  aP Tryz.prog 85 (V.aU [.own 0,.fn 86 []]) (h1 l).ay n
   (fun t hp=>(uY l=l/\t= .own 0/\hp=(h1 l).ay)\/(∃ m,t= .pU 0 0 (uY l).length/\hp=Hz.ay [(0,some (.row 50 3 (.elems (uY l)) (List.replicate m zeroV)))])):=by
 refine oJ.of (nx:=1) Bd.eU (by simp) ⟨_,_,.inr ⟨0,rfl,rfl⟩⟩ rfl rfl ?_;refine⟨fun h1=>?_,fun h1=>?_⟩
 ·conv=>whnf
  have hc:uY l=l:=by
   have h2:l.length<2:=by simp at h1; omega
   rw[uY,LD (ba _) (fun i h3 h4=>by omega),bp]
  exact iT.one (c:=0) (j:=0) (o:=aZ l) (t:=.own 0) rfl rfl rfl (fun _=>rfl) (.inl rfl) rfl (.eq rfl) (.inl ⟨hc,rfl,rfl⟩)
 ·have h2:2<=l.length:=by simp at h1; omega
  refine aA.same [0,1] (fun i:Nat=>[(5,.int i)]) (fun i=>1<=i/\i<=l.length/\ ∀ k,0<k->k<i->l.getD k default≠l.getD (k-1) default) (fun i=>l.length-i) 1 rfl (by decide) rfl (fun _=>rfl) ⟨by omega,by omega,fun k h3 h4=>by omega⟩ ⟨⟨_,rfl,rfl⟩,trivial⟩ ?_;refine⟨rfl,?_⟩;rintro k ⟨hk0,hk,hne⟩;have e1:((k:Int)-1).toNat=k-1:=by omega
  refine⟨fun h3=>?_,fun h3=>?_⟩
  ·have hk':k<l.length:=by simpa using h3
   repeat(refine VC.mk (by simp only[okI,Rw.rng]; omega) ?_)
   refine ah.pure (S.nX _ _ (hs.get _) (hs.get _)) rfl ?_;refine⟨fun h4=>?_,fun h4=>?_⟩
   ·have heq:l.getD k default=l.getD (k-1) default:=by
     rw[e1] at h4; simpa using h4
    have hdk:uX l k=l.take k:=LD hk hne;have afR:uX l (k+1)=l.take k:=by rw[Sz (by omega) heq,hdk]
    refine .mk (by simp only[Rw.qM]; omega) ?_;refine aA.objs 1 [0,1,6] (fun j:Nat=>[(7,.int j),(5,.int (uX l (k+j)).length)]) (fun j=>[(0,aZ (mid l (k+j)))]) (fun j=>1<=j/\k+j<=l.length/\(uX l (k+j)).length+1<=k+j) (fun j=>l.length-j) 1 [0] rfl (by decide) (fun _=>rfl) ⟨by omega,by omega,?_⟩ ?_ ?_ ?_
    ·rw[afR]; simp; omega
    ·refine⟨⟨_,rfl,.eq rfl⟩,⟨_,rfl,.eq ?_⟩,trivial⟩;rw[afR];show T.int (((l.take k).length:Nat):Int)=T.int (k:Int);simp[Nat.min_eq_left hk]
    ·refine⟨⟨rfl,(fun _=>rfl),rfl,rfl,rfl,_,rfl,rfl,rfl,dJ.of_eq ?_⟩,trivial⟩
     have:mid l (k+1)=l:=by unfold mid; rw[afR]; simp[Nat.min_eq_left hk]
     rw[this]
    refine⟨(sR rfl),rfl,?_⟩;rintro j ⟨hj0,hj,hdl⟩;have hml:=adJ hj;have e2:((j:Int)-1).toNat=j-1:=by omega
    have hsm:dS (mid l (k+j)):=fun x hx=>by
     unfold mid at hx;rcases cH.1 hx with hx|hx
     ·exact hs x (adI hx hj)
     ·exact hs x (gT hx)
    refine⟨fun h5=>?_,fun h5=>?_⟩
    ·have hj':k+j<l.length:=by
      have h6:j<l.length-k:=by
       have:(j:Int)<(((Rw.elems l).len-k:Nat):Int):=by simpa using h5
       have e3:(Rw.elems l).len=l.length:=rfl;rw[e3] at this;omega
      omega
     have g1:=XA (l:=l) (j:=k+j) (i:=k+j) (by omega);have g2:=XA (l:=l) (j:=k+j) (i:=k+(j-1)) (by omega);repeat(refine VC.mk (by first|(simp only[okI]; omega)|(show _/\_<(((l.length-k:Nat)):Int); omega)|(simp only[Rw.rng,hml,ap,e2]; omega)|(show(0:Int)<=_/\_<((mid l (k+j)).length:Int); rw[hml]; simp only[ap,e2]; omega)) ?_)
     refine ah.pure (S.nX _ _ (hsm.get _) (hsm.get _)) rfl ?_;simp only[ap,e2,g1,g2];conv=>whnf
     have e4:k+(j-1)=k+j-1:=by omega
     refine⟨fun h6=>?_,fun h6=>?_⟩
     ·have hne':l.getD (k+j) default≠l.getD (k+j-1) default:=by
       rw[e4] at h6; simpa using h6
      have hst:=adK hj' (.inr hne');have hd1:uX l (k+j+1)=uX l (k+j)++[l.getD (k+j) default]:=by simp only[uX]; rw[bk (.inr hne')]
      repeat(refine VC.mk (by first|(simp only[okI]; omega)|(show _/\_<(((l.length-k:Nat)):Int); omega)|(simp only[Rw.rng,hml,ap]; omega)|(show(0:Int)<=_/\_<((mid l (k+j)).length:Int); rw[hml]; simp only[ap]; omega)) ?_)
      refine⟨j+1,[0],⟨by omega,by omega,?_⟩,by omega,⟨⟨_,rfl,.eq rfl⟩,⟨_,rfl,.eq ?_⟩,trivial⟩,(sR rfl),⟨rfl,(fun _=>rfl),rfl,rfl,rfl,_,rfl,rfl,rfl,dJ.of_eq ?_⟩,trivial⟩
      ·show(uX l (k+j+1)).length+1<=k+(j+1);rw[hd1]; simp; omega
      ·show T.int (((uX l (k+j+1)).length:Nat):Int)=T.int (((uX l (k+j)).length:Int)+1);rw[hd1]; simp
      ·show(aZ (mid l (k+j+1))).au.l=(OV.row 50 3 (.elems ((mid l (k+j)).set (((uX l (k+j)).length:Int)).toNat ((mid l (k+j)).getD ((k:Int).toNat+(j:Int).toNat) default))) []).au.l;simp only[ap,g1,hst]
     ·have heq':l.getD (k+j) default=l.getD (k+j-1) default:=by
       rw[e4] at h6; simpa using h6
      have hd1:uX l (k+j+1)=uX l (k+j):=Sz (by omega) heq';refine .mk (by simp only[okI] at *; omega) ?_;refine⟨j+1,[0],⟨by omega,by omega,?_⟩,by omega,⟨⟨_,rfl,.eq rfl⟩,⟨_,rfl,.eq ?_⟩,trivial⟩,(sR rfl),⟨rfl,(fun _=>rfl),rfl,rfl,rfl,_,rfl,rfl,rfl,dJ.of_eq ?_⟩,trivial⟩
      ·show(uX l (k+j+1)).length+1<=k+(j+1);rw[hd1]; omega
      ·show T.int (((uX l (k+j+1)).length:Nat):Int)=T.int ((uX l (k+j)).length:Int);rw[hd1]
      ·show(aZ (mid l (k+j+1))).au.l=(aZ (mid l (k+j))).au.l;unfold mid; rw[hd1]
    ·have hj':k+j=l.length:=by
      have h6: ¬ (j:Int)<(((Rw.elems l).len-k:Nat):Int):=by simpa using h5
      have e3:(Rw.elems l).len=l.length:=rfl;rw[e3] at h6;omega
     have aiX:(uX l (k+j)).length<=l.length:=by have:=J7 l (k+j); omega
     repeat(refine VC.mk (by first|(simp only[Rw.qM,hml]; omega)|(refine⟨?_,rfl⟩; show((uX l (k+j)).length:Int).toNat<=(mid l (k+j)).length; rw[hml,ap]; omega)|(show(0:Int)<=((uX l (k+j)).length:Int)/\((uX l (k+j)).length:Int)<=(((mid l (k+j)).take ((uX l (k+j)).length:Int).toNat).length:Int); rw[bE,hml,ap]; omega)|(show _<=(mid l (k+j)).length/\(mid l (k+j)).length=(mid l (k+j)).length; rw[hml]; simp only[ap]; omega)|(show(0:Int)<=_/\_<=(((mid l (k+j)).take _).length:Int); rw[bE,hml]; simp only[ap]; omega)) ?_)
     have htk:(mid l (k+j)).take ((uX l (k+j)).length:Int).toNat=uY l:=by
      rw[ap]; unfold mid; rw[List.take_left,hj']; rfl
     have hcl:((uX l (k+j)).length:Int).toNat=(uY l).length:=by rw[ap,hj']; rfl
     refine iT.one (c:=0) (j:=0) (o:=.row 50 3 (.elems (uY l)) (List.replicate ((mid l (k+j)).length-((uX l (k+j)).length:Int).toNat) zeroV)) (t:=.pU 0 0 (uY l).length) ?_ (Lr _ _ _) (F8 _ _) (fun _=>rfl) (.inl rfl) rfl (.eq ?_) (.inr ⟨_,rfl,rfl⟩)
     ·rw[<- htk]; rfl
     ·rw[<- hcl]; rfl
   ·conv=>whnf
    refine .mk (by simp only[okI] at *; omega) ?_;refine⟨k+1,⟨by omega,by omega,fun i h5 h6=>?_⟩,by omega,⟨⟨_,rfl,rfl⟩,trivial⟩,?_,rfl⟩
    ·by_cases e:i=k
     ·subst e; rw[e1] at h4; simpa using h4
     ·exact hne i h5 (by omega)
    ·repeat' (first|exact trivial|exact⟨_,rfl,rfl⟩|constructor)
  ·conv=>whnf
   have hk':l.length<=k:=by simpa using h3
   have hc:uY l=l:=by
    rw[uY,LD (ba _) (fun i h3 h4=>hne i h3 (by omega)),bp]
   exact iT.one (c:=0) (j:=0) (o:=aZ l) (t:=.own 0) rfl rfl rfl (fun _=>rfl) (.inl rfl) rfl (.eq rfl) (.inl ⟨hc,rfl,rfl⟩)
theorem S.YR:aj Tryz.prog 145 [.raw (.lit (.int .u64 0))] (.int 0):=by
 refine aj.of Bd.vP (by simp) rfl rfl ?_;refine Fork.mk (fun q=>absurd (q.symm.trans ((rfl:decide ((4294967296:Int)<=0)=false))).symm aq) (fun _=>?_);refine Fork.mk (fun q=>absurd (q.symm.trans ((rfl:decide ((65536:Int)<=0)=false))).symm aq) (fun _=>?_);refine Fork.mk (fun q=>absurd (q.symm.trans ((rfl:decide ((256:Int)<=0)=false))).symm aq) (fun _=>?_);refine .mk (by omega) ?_;repeat(refine VC.mk (by constructor<;>decide) ?_)
 exact ak.int (by decide)
theorem S.bitsLen:aj Tryz.prog 117 [.raw (.lit (.int .u64 0))] (.int 0):=by
 refine aj.of Bd.y9 (by simp) rfl rfl ?_;refine Fork.mk (fun q=>absurd (q.symm.trans ((rfl:false=false))).symm aq) (fun _=>?_);refine ah.pure (S.YR) rfl ?_;exact ak.int rfl
theorem S.VE(n:Nat):aP Tryz.prog 114 (V.aU [.own 0,.int 0,.int 0,.fn 30 []]) (h1 []).ay n (fun t hp=>t= .dQ []/\hp=(h1 []).ay):=by
 refine oJ.of (nx:=1) (h0:=h1 []) Bd.dH (by simp) ⟨_,_,rfl,rfl⟩ rfl rfl ?_;refine .mk (by simp only[okI] at *; omega) ?_;refine aA.times 1 rfl ?_;refine Fork.mk (fun q=>absurd (q.symm.trans ((rfl:decide ((0:Int)+1<0)=false))).symm aq) (fun _=>?_);exact iT.one (c:=0) (j:=0) (o:=aZ []) (t:=.dQ []) rfl rfl rfl (fun _=>rfl) (.inl rfl) trivial (.eq rfl) ⟨rfl,rfl⟩
theorem S.aie(n:Nat):aP Tryz.prog 116 (V.aU [.own 0,.int 0,.int 0,.int 0,.fn 30 []]) (h1 []).ay n (fun t hp=>t= .dQ []/\hp=(h1 []).ay):=by
 refine oJ.of (nx:=1) (h0:=h1 []) Bd.iq (by simp) ⟨_,_,rfl,rfl⟩ rfl rfl ?_;refine aA.times 1 rfl ?_;refine .mk (by simp only[okI] at *; omega) ?_;refine Fork.mk (fun _=>?_) (fun q=>absurd (q.symm.trans ((rfl:decide ((0:Int)-0<=12)=true))) aq);refine ah.heap (S.VE _) (fun t hp ⟨e1,e2⟩=>⟨.dQ [],h1 [],e1,e2,?_⟩);exact iT.one (c:=0) (j:=0) (o:=aZ []) (t:=.dQ []) rfl rfl rfl (fun _=>rfl) (.inl rfl) trivial (.eq rfl) ⟨rfl,rfl⟩
theorem S.adL(n:Nat):aP Tryz.prog 84 (V.aU [.own 0,.fn 30 []]) (h1 []).ay n (fun t hp=>t= .dQ []/\hp=(h1 []).ay):=by
 refine oJ.of (nx:=1) (h0:=h1 []) Bd.dB (by simp) ⟨_,_,rfl,rfl⟩ rfl rfl ?_;refine .mk (by simp only[cD]; omega) ?_;refine ah.pure (S.bitsLen) rfl ?_;refine ah.heap (S.aie _) (fun t hp ⟨e1,e2⟩=>⟨.dQ [],h1 [],e1,e2,?_⟩);exact iT.one (c:=0) (j:=0) (o:=aZ []) (t:=.dQ []) rfl rfl rfl (fun _=>rfl) (.inl rfl) trivial (.eq rfl) ⟨rfl,rfl⟩
theorem YS: ∀ a b:List Int,cmpL b a= -cmpL a b:=by
 intro a;induction a with
 |nil=>intro b; cases b<;>rfl
 |cons x a ih =>
  intro b;cases b with
  |nil=>rfl
  |cons y b =>
   simp only[cmpL];by_cases h1:x<y
   ·have h2: ¬ y<x:=by omega
    simp[h1,h2]
   ·by_cases h2:y<x
    ·simp[h1,h2]
    ·simp[h1,h2,ih]
theorem nV(a b:Elem):gY b a= -gY a b:=by
 simp only[gY];by_cases h1:a.value<b.value
 ·have h2: ¬ b.value<a.value:=by omega
  simp[h1,h2]
 ·by_cases h2:b.value<a.value
  ·simp[h1,h2]
  ·simp[h1,h2,YS a.counts b.counts]
theorem VF: ∀ {a b c:List Int},cmpL a b<0->cmpL b c<0->cmpL a c<0:=by
 intro a;induction a with
 |nil =>
  intro b c h1 h2;cases b with
  |nil=>simp[cmpL] at h1
  |cons y b=>cases c with
   |nil=>simp[cmpL] at h2
   |cons z c=>simp[cmpL]
 |cons x a ih =>
  intro b c h1 h2;cases b with
  |nil=>simp[cmpL] at h1
  |cons y b=>cases c with
   |nil=>simp[cmpL] at h2
   |cons z c =>
    simp only[cmpL] at h1 h2 ⊢;by_cases a1:x<y
    ·by_cases a2:y<z
     ·rw[bk (by omega)]; omega
     ·by_cases a3:z<y
      ·simp[a2,a3] at h2
      ·rw[bk (by omega)]; omega
    ·by_cases a4:y<x
     ·simp[a1,a4] at h1
     ·simp only[a1,a4,cQ] at h1;have e:x=y:=by omega
      subst e;by_cases a2:x<z
      ·simp[a2]
      ·by_cases a3:z<x
       ·simp[a2,a3] at h2
       ·simp only[a2,a3,cQ] at h2 ⊢;exact ih h1 h2
theorem rF{a b c:Elem}(h1:gY a b<0)(h2:gY b c<0):gY a c<0:=by
 simp only[gY] at h1 h2 ⊢;by_cases a1:a.value<b.value
 ·by_cases a2:b.value<c.value
  ·rw[bk (by omega)]; omega
  ·by_cases a3:c.value<b.value
   ·simp[a2,a3] at h2
   ·rw[bk (by omega)]; omega
 ·by_cases a4:b.value<a.value
  ·simp[a1,a4] at h1
  ·simp only[a1,a4,cQ] at h1;by_cases a2:b.value<c.value
   ·rw[bk (by omega)]; omega
   ·by_cases a3:c.value<b.value
    ·simp[a2,a3] at h2
    ·simp only[a2,a3,cQ] at h2;rw[bX (by omega),bX (by omega)];exact VF h1 h2
theorem Ey{a b c:Elem}(h1: ¬ gY b a<0)(h2: ¬ gY c b<0): ¬ gY c a<0:=by
 rw[nV a b] at h1;rw[nV b c] at h2;rw[nV a c];by_cases e1:gY a b=0
 ·rw[jO] at e1; subst e1; exact h2
 ·by_cases e2:gY b c=0
  ·rw[jO] at e2; subst e2; exact h1
  ·have:=rF (a:=a) (b:=b) (c:=c) (by omega) (by omega);omega
def Gq(l:List Elem):Prop:=l.Pairwise fun a b=> ¬ gY b a<0
def VG(e:Elem):List Elem->List Elem
 |[]=>[e]
 |x::r=>if gY x e<0 then x::VG e r else e::x::r
def tq(l:List Elem):List Elem:=l.foldr VG []
theorem OG(e:Elem): ∀ l,(VG e l).Perm (e::l):=by
 intro l;induction l with
 |nil=>exact .refl _
 |cons x r ih =>
  simp only[VG]; split
  ·exact((ih.cons x).trans (.swap e x r))
  ·exact .refl _
theorem xF: ∀ l,(tq l).Perm l:=by
 intro l;induction l with
 |nil=>exact .refl _
 |cons x r ih=>exact(OG x _).trans (ih.cons x)
theorem aa7(e:Elem): ∀ l,Gq l->Gq (VG e l):=by
 intro l;induction l with
 |nil=>intro _; simp[Gq,VG]
 |cons x r ih =>
  intro h;have h':=h;simp only[Gq,dj] at h;simp only[VG];split
  ·rename_i hlt;simp only[Gq,dj];refine⟨fun y hy=>?_,ih h.2⟩;rcases br.1 ((OG e r).mem_iff.1 hy) with rfl|hy
   ·rw[nV]; omega
   ·exact h.1 y hy
  ·rename_i hge;simp only[Gq,dj];refine⟨fun y hy=>?_,h⟩;rcases br.1 hy with rfl|hy
   ·exact hge
   ·exact Ey hge (h.1 y hy)
theorem D6: ∀ l,Gq (tq l):=by
 intro l;induction l with
 |nil=>simp[Gq,tq]
 |cons x r ih=>exact aa7 x _ ih
theorem VH: ∀ {a b:List Elem},a.Perm b->Gq a->Gq b->a=b:=by
 intro a;induction a with
 |nil=>intro b hp _ _; exact hp.nil_eq
 |cons x a ih =>
  intro b hp ha hb;cases b with
  |nil=>exact absurd hp.symm (by simp)
  |cons y b =>
   have h1:=ha; have h2:=hb;simp only[Gq,dj] at h1 h2;have hxy:x=y:=by
    by_cases e:x=y
    ·exact e
    ·have hx:x∈b:=by
      rcases br.1 (hp.mem_iff.1 (by simp:x∈x::a)) with h|h
      ·exact absurd h e
      ·exact h
     have hy:y∈a:=by
      rcases br.1 (hp.mem_iff.2 (by simp:y∈y::b)) with h|h
      ·exact absurd h.symm e
      ·exact h
     have g1:=h1.1 y hy;have g2:=h2.1 x hx;rw[nV] at g1
     have:gY x y=0:=by omega
     exact jO.1 this
   subst hxy;rw[ih (List.Perm.cons_inv hp) h1.2 h2.2]
def Ez:T->Elem
 | .agg [.lit (.int _ v),.sl _ _ l]=>⟨v,l.map zf⟩
 |_=>default
theorem J8(e:Elem):Ez (gB e)=e:=by
 obtain⟨v,c⟩:=e;simp only[gB,Ez]
 congr 1
 rw[cT];conv=>rhs; rw[<- List.map_id c]
 exact cM fun x _=>rfl
theorem S.aif{x y:Elem}(hx:x.counts.length<2^40)(hy:y.counts.length<2^40):xG Tryz.prog 30 [gB x,gB y] (.int (gY x y)):=S.jh x y hx hy
theorem aa8(l:List Elem):(h1 l).ay=upd no 0 (some ⟨50,3,l.map gB⟩):=by
 show Hz.ay ((0,some (aZ l))::[])=_;rw[dG];simp[aZ,OV.au,Rw.aU,V.aU]; rfl
theorem afS: ∀ w,(isAgg 50).run Tryz.prog w= .ok true w:=fun w=>Aw (k:=3) (by kernel_rfl)
theorem ahi: ∀ w,(Go.sizeOf 50).run Tryz.prog w= .ok 2 w:=fun w=>jq (k:=3) (by kernel_rfl)
theorem S.SortFunc(l:List Elem)(n:Nat)(hl:l.length<2^30)(hs:dS l) :
  aP Tryz.prog 84 (V.aU [.own 0,.fn 30 []]) (h1 l).ay n (fun t hp=>t= .dQ []/\hp=(h1 (tq l)).ay):=by
 by_cases hne:l=[]
 ·subst hne;exact S.adL n
 ·have hx: ∀ t∈l.map gB,∃ e∈l,t=gB e:=fun t ht=>by obtain⟨e,he,rfl⟩:=av.1 ht; exact⟨e,he,rfl⟩
  have H:=aP.sort (n:=n) Tryz.laySort 2 (by decide) afS ahi (by exact Bd.dB.cl) (g:=30) (by decide) (by exact Bd.jh.cl) (l:=l.map gB) (by simpa using hne)
   (fun t ht=>by obtain⟨e,_,rfl⟩:=hx t ht; rfl) (EW l) (by simp; omega) (fun x y=>gY (Ez x) (Ez y))
   (fun t ht=>by rw[jO.2 rfl]; decide)
   (fun x _ y _ z _ h1 h2=>rF h1 h2)
   (fun x _ y _ z _ h1 h2=>Ey h2 h1)
   (fun x hx1 y hy1=>by
    obtain⟨a,ha,rfl⟩:=hx x hx1;obtain⟨b,hb,rfl⟩:=hx y hy1
    simp only[J8]; exact S.aif (hs a ha) (hs b hb))
   (by decide) ⟨(tq l).map gB,(xF l).map gB,by
    rw[ee]; simp only[J8]; exact D6 l⟩ (h:=(h1 l).ay) (i:=0) (ty:=50) (by rw[aa8]; rfl)
  refine aP.mono H ?_;rintro t hp ⟨rfl,l',hp',hpw,rfl⟩;refine⟨rfl,?_⟩;have hl':l'=(l'.map Ez).map gB:=by
   rw[cT];conv=>lhs; rw[<- List.map_id l']
   refine cM fun t ht=>?_
   obtain⟨e,_,rfl⟩:=hx t (hp'.mem_iff.1 ht);simp[J8]
  have hperm:(l'.map Ez).Perm l:=by
   have:=hp'.map Ez;rw[cT] at this;have e:l.map (Ez ∘ gB)=l:=by
    conv=>rhs; rw[<- List.map_id l]
    exact cM fun e _=>J8 e
   rw[e] at this; exact this
  have hsrt:Gq (l'.map Ez):=by
   unfold Gq; rw[ee]; exact hpw
  have heq:l'.map Ez=tq l:=VH (hperm.trans (xF l).symm) hsrt (D6 l);rw[aa8,aa8];rw[hl',heq];funext j;simp only[upd]; split<;>rfl
def rO(l:List Elem):List Elem:=uY (tq l)
theorem OH(l:List Elem):(tq l).length=l.length:=(xF l).length_eq
theorem SB{l:List Elem}(h:dS l):dS (tq l):=fun e he=>h e ((xF l).mem_iff.1 he)
theorem S.uF(l:List Elem)(n:Nat)(hl:l.length<2^30)(hs:dS l) :
  aP Tryz.prog 55 (V.aU [.own 0]) (h1 l).ay n
   (fun t hp=>(t= .own 0/\hp=(h1 (rO l)).ay)\/(∃ m,t= .pU 0 0 (rO l).length/\hp=Hz.ay [(0,some (.row 50 3 (.elems (rO l)) (List.replicate m zeroV)))])):=by
 refine oJ.of (nx:=1) Bd.uF (by simp) ⟨_,_,.inl ⟨rfl,rfl⟩⟩ rfl rfl ?_;refine ah.heap (S.SortFunc l _ hl hs) ?_;rintro t hp ⟨rfl,rfl⟩;refine⟨.dQ [],h1 (tq l),rfl,rfl,?_⟩;refine ah.heap (S.SA (tq l) _ (by rw[OH]; exact hl) (SB hs)) ?_;rintro t hp (⟨hc,rfl,rfl⟩|⟨m,rfl,rfl⟩)
 ·refine⟨.own 0,h1 (tq l),rfl,rfl,?_⟩;refine iT.one (c:=0) (j:=0) (o:=aZ (tq l)) (t:=.own 0) rfl rfl rfl (fun _=>rfl) (.inl rfl) rfl (.eq rfl) (.inl ⟨rfl,?_⟩);rw[rO,hc]
 ·refine⟨.pU 0 0 (uY (tq l)).length,[(0,some (.row 50 3 (.elems (uY (tq l))) (List.replicate m zeroV)))],rfl,rfl,?_⟩;exact iT.one (c:=0) (j:=0) (o:=.row 50 3 (.elems (uY (tq l))) (List.replicate m zeroV)) (t:=.pU 0 0 (uY (tq l)).length) rfl (Lr _ _ _) (F8 _ _) (fun _=>rfl) (.inl rfl) rfl (.eq rfl) (.inr ⟨m,rfl,rfl⟩)
def vY(l:List Elem)(x:Elem):Bool:= !(l.any (y7 x))
def aK(l:List Elem):List Elem:=rO (l.filter (vY l))
theorem SC{l:List Elem}{p:Elem->Bool}{i:Nat}(h:i<l.length):(l.take (i+1)).filter p=(l.take i).filter p++(if p (l.getD i default)=true then [l.getD i default] else []):=by
 rw[cR,List.filter_append]
 congr 1
 simp only[bN h,Option.toList_some,aR,eA,fg,List.filter_nil]
theorem ak.adz{h:Hz}{j m:Nat}{l:List Elem}(q:h.get j=some (.row 50 3 (.elems l) (List.replicate m zeroV))):ak (.row 3 false (.elems l)) (.pU j 0 l.length) h:=⟨by
 show T.sub (fun _=>True) h.ay (.sl 3 false (l.map gB)) (.pU j 0 l.length);simp only[T.sub];refine⟨trivial,trivial,EW l,by decide,50,l.map gB++V.aU (List.replicate m zeroV),?_,by simp,by simp⟩
 exact aO q⟩
theorem S.lN(l:List Elem)(f:Bool)(hl:l.length<2^29)(hs:dS l):aj Tryz.prog 52 [.row 3 f (.elems l)] (.row 3 false (.elems (aK l))):=by
 refine aj.of Bd.lN (by simp) rfl rfl ?_;refine aA.nil 3 50 3 (by rfl) rfl rfl rfl ?_;refine aA.objs 1 [0,8,9] (fun i:Nat=>[(10,.int i),(3,.own 0)]) (fun i=>[(0,aZ ((l.take i).filter (vY l)))]) (fun i=>i<=l.length) (fun i=>l.length-i) 0 [5] rfl (by decide) (fun _=>rfl) (ab _) ?_ ?_ ?_
 ·exact(sR rfl)
 ·exact⟨dA rfl rfl,trivial⟩
 refine⟨(sR rfl),rfl,?_⟩;rintro i hi;have hfl:((l.take i).filter (vY l)).length<=i:=by
  have:=gN (vY l) (l.take i);simp at this; omega
 refine⟨fun h3=>?_,fun h3=>?_⟩
 ·have hi':i<l.length:=by simpa using h3
  have hstep:=SC (p:=vY l) hi';refine .mk (by simp only[Rw.rng] at *; omega) ?_;refine ah.pure (S.NU l (l.getD i default) false f (by omega) hs (hs.get i)) rfl ?_;refine⟨fun h4=>?_,fun h4=>?_⟩
  ·conv=>whnf
   refine ah.pure (S.kV (l.getD i default) (l.any (y7 (l.getD i default))) (hs.get i)) rfl ?_;repeat(refine VC.mk (by first|(show(((l.take i).filter (vY l)).length+(0+1))*32<=140737488355328/\((l.take i).filter (vY l)).length+(0+1)<=1152921504606846976; omega)|(simp only[okI] at *; omega)) ?_)
   refine⟨i+1,[25],by omega,by omega,(sR rfl),(sR rfl),⟨rfl,nofun,rfl,rfl,rfl,_,rfl,rfl,rfl,dJ.of_eq ?_⟩,trivial⟩;rw[hstep,bk (show vY l (l.getD i default)=true from h4)];show List.map gB _++[]=List.map gB _++[gB _];simp
  ·conv=>whnf
   refine .mk (by simp only[okI] at *; omega) ?_;refine⟨i+1,[0],by omega,by omega,(sR rfl),(sR rfl),⟨rfl,nofun,rfl,rfl,rfl,_,rfl,rfl,rfl,dJ.of_eq ?_⟩,trivial⟩;rw[hstep,bX (by rw[show vY l (l.getD i default)=false from h4]; decide),cN]
 ·have hi':l.length<=i:=by simpa using h3
  have hA:l.take i=l:=bB hi';rw[hA] at hfl ⊢;refine ah.heap (S.uF (l.filter (vY l)) _ (by omega) (fun e he=>hs e (eQ.1 he).1)) ?_;rintro t hp (⟨rfl,rfl⟩|⟨m,rfl,rfl⟩)
  ·refine⟨.own 0,h1 _,rfl,rfl,?_⟩;exact ak.aaP rfl
  ·refine⟨.pU 0 0 _,[(0,some _)],rfl,rfl,?_⟩;exact ak.adz rfl
theorem aa9: ∀ {a b:List Int},ny a b=true->cmpL a b<=0:=by
 intro a;induction a with
 |nil=>intro b h; cases b<;>simp[ny,cmpL] at *
 |cons x a ih =>
  intro b h;cases b with
  |nil=>simp[ny] at h
  |cons y b =>
   simp only[ny,aD,ag] at h;simp only[cmpL];by_cases h1:x<y
   ·simp[h1]
   ·have h2: ¬ y<x:=by omega
    simp only[h1,h2,cQ]; exact ih h.2
theorem Gj{a b:Elem}(h:kL a b=true):gY a b<=0:=by
 simp only[kL,aD,bv] at h;simp only[gY];rw[bX (by omega),bX (by omega)];exact aa9 h.2
theorem YT: ∀ a:List Int,ny a a=true:=by
 intro a;induction a with
 |nil=>rfl
 |cons x a ih=>simp[ny,ih]
theorem zq(a:Elem):kL a a=true:=by simp[kL,YT]
theorem VI: ∀ {a b c:List Int},ny a b=true->ny b c=true->ny a c=true:=by
 intro a;induction a with
 |nil=>intro b c h1 h2; cases b<;>cases c<;>simp[ny] at *
 |cons x a ih =>
  intro b c h1 h2;cases b with
  |nil=>simp[ny] at h1
  |cons y b=>cases c with
   |nil=>simp[ny] at h2
   |cons z c =>
    simp only[ny,aD,ag] at *;exact⟨by omega,ih h1.2 h2.2⟩
theorem uy{a b c:Elem}(h1:kL a b=true)(h2:kL b c=true):kL a c=true:=by
 simp only[kL,aD,bv] at *;exact⟨by omega,VI h1.2 h2.2⟩
theorem nJ{x y:Elem}:y7 x y=true↔kL y x=true/\y≠x:=by
 simp only[y7,aD,bne_iff_ne,ne_eq,jO]
theorem Gl{x y:Elem}(h:y7 x y=true):gY y x<0:=by
 rw[nJ] at h;have h1:=Gj h.1;have h2:gY y x≠0:=fun e=>h.2 (jO.1 e)
 omega
def SS(l:List Elem):Prop:=l.Pairwise fun a b=>gY a b<0
theorem zG: ∀ {a b:List Elem},SS a->SS b->(∀ x,x∈a↔x∈b)->a=b:=by
 intro a;induction a with
 |nil =>
  intro b _ _ h;cases b with
  |nil=>rfl
  |cons y b=>exact absurd ((h y).2 (by simp)) (by simp)
 |cons x a ih =>
  intro b ha hb h;cases b with
  |nil=>exact absurd ((h x).1 (by simp)) (by simp)
  |cons y b =>
   simp only[SS,dj] at ha hb;have hself: ∀ z:Elem,¬ gY z z<0:=fun z=>by rw[jO.2 rfl]; decide
   have hxy:x=y:=by
    rcases br.1 ((h x).1 (by simp)) with e|hx
    ·exact e
    ·rcases br.1 ((h y).2 (by simp)) with e|hy
     ·exact e.symm
     ·exact absurd (rF (ha.1 y hy) (hb.1 x hx)) (hself x)
   subst hxy;rw[ih ha.2 hb.2 fun z=>?_];constructor
   ·intro hz;rcases br.1 ((h z).1 (by simp[hz])) with e|h'
    ·subst e; exact absurd (ha.1 z hz) (hself z)
    ·exact h'
   ·intro hz;rcases br.1 ((h z).2 (by simp[hz])) with e|h'
    ·subst e; exact absurd (hb.1 z hz) (hself z)
    ·exact h'
theorem OI{l:List Elem}(hs:Gq l): ∀ n,n<=l.length->SS (uX l n)/\(∀ x,x∈uX l n↔x∈l.take n)/\(∀ x∈uX l n,n<l.length-> ¬ gY (l.getD n default) x<0):=by
 intro n;induction n with
 |zero=>intro _; exact⟨by simp[SS,uX],by simp[uX],by simp[uX]⟩
 |succ n ih =>
  intro hn;obtain⟨h1,h2,h3⟩:=ih (by omega);have hnl:n<l.length:=by omega
  have hmono: ∀ i j,i<=j->j<l.length-> ¬ gY (l.getD j default) (l.getD i default)<0:=by
   intro i j hij hj;by_cases e:i=j
   ·subst e; rw[jO.2 rfl]; decide
   ·have:=eC.1 hs i j (by omega) hj (by omega);simpa [hj,show i<l.length by omega] using this
  have htake: ∀ x,x∈l.take n-> ∃ i,i<n/\l.getD i default=x:=by
   intro x hx;rw[dz] at hx;obtain⟨i,hi,e⟩:=hx;exact⟨i,by omega,by rw[<- e]; simp[show i<l.length by omega]⟩
  have hlast:l.take (n+1)=l.take n++[l.getD n default]:=by
   rw[cR]; simp[hnl]
  simp only[uX];split
  ·rename_i hc;refine⟨?_,?_,?_⟩
   ·simp only[SS,eT];refine⟨h1,by simp,fun x hx y hy=>?_⟩;rw[bl] at hy; subst hy;have hge:=h3 x hx hnl;rw[nV] at hge;have hne:gY x (l.getD n default)≠0:=by
     intro e;rw[jO] at e;rcases hc with hc|hc
     ·subst hc; simp[uX] at hx
     ·obtain⟨i,hi,hix⟩:=htake x ((h2 x).1 hx);have g1:=hmono i (n-1) (by omega) (by omega);have g2:=hmono (n-1) n (by omega) hnl;rw[hix,e] at g1;rw[nV] at g1
      have:gY (l.getD n default) (l.getD (n-1) default)=0:=by omega
      exact hc (jO.1 this)
    omega
   ·intro x;rw[hlast];simp only[cH,h2]
   ·intro x hx hn1;rcases cH.1 hx with hx|hx
    ·obtain⟨i,hi,hix⟩:=htake x ((h2 x).1 hx);rw[<- hix]; exact hmono i (n+1) (by omega) hn1
    ·rw[bl] at hx; subst hx;exact hmono n (n+1) (by omega) hn1
  ·rename_i hc;have hc':n≠0/\l.getD n default=l.getD (n-1) default:=by
    constructor
    ·intro e; exact hc (.inl e)
    ·by_cases e:l.getD n default=l.getD (n-1) default
     ·exact e
     ·exact absurd (.inr e) hc
   refine⟨h1,fun x=>?_,fun x hx hn1=>?_⟩
   ·rw[hlast,h2];simp only[cH,bl];constructor
    ·exact .inl
    ·rintro(h|h)
     ·exact h
     ·rw[h,hc'.2];rw[dz];exact⟨n-1,by omega,by simp[show n-1<l.length by omega]⟩
   ·obtain⟨i,hi,hix⟩:=htake x ((h2 x).1 hx);rw[<- hix]; exact hmono i (n+1) (by omega) hn1
theorem Lm(l:List Elem):SS (rO l):=(OI (D6 l) _ (ba _)).1
theorem wH(l:List Elem)(x:Elem):x∈rO l↔x∈l:=by
 unfold rO uY;rw[(OI (D6 l) _ (ba _)).2.1,bp];exact(xF l).mem_iff
theorem YU{l:List Elem}{e:Elem}: ∀ i,i<=l.length->(∀ j,vO l e i<=j->j<i->0<gY (l.getD j default) e)/\(0<vO l e i-> ¬ 0<gY (l.getD (vO l e i-1) default) e):=by
 intro i;induction i with
 |zero=>intro _; exact⟨fun j _ h=>by omega,fun h=>by simp[vO] at h⟩
 |succ i ih =>
  intro hi;simp only[vO];split
  ·rename_i hc;obtain⟨h1,h2⟩:=ih (by omega);refine⟨fun j hj hji=>?_,h2⟩;by_cases e:j=i
   ·subst e; exact hc
   ·exact h1 j hj (by omega)
  ·rename_i hc;exact⟨fun j h1 h2=>by omega,fun _=>by simpa using hc⟩
theorem EX{l:List Elem}{e:Elem}(hs:SS l):SS (og l e)/\ ∀ x,x∈og l e↔x=e\/x∈l:=by
 obtain⟨h1,h2⟩:=YU (l:=l) (e:=e) l.length (ba _);have hp:=Xy (l:=l) (e:=e) l.length;have hlt: ∀ i j,i<j->j<l.length->gY (l.getD i default) (l.getD j default)<0:=by
  intro i j hij hj;have:=eC.1 hs i j (by omega) hj hij;simpa [hj,show i<l.length by omega] using this
 unfold og;split
 ·rename_i hf;simp only[y5,aD,ag] at hf;refine⟨hs,fun x=>⟨.inr,?_⟩⟩;rintro(rfl|h)
  ·have:=jO.1 hf.2;rw[<- this];have hlt':vO l x l.length-1<l.length:=by omega
   simp[hlt']
  ·exact h
 ·rename_i hf;generalize hpe:vO l e l.length=p at *;have hle: ∀ i,i<p->gY (l.getD i default) e<0:=by
   intro i hi;have hlast:gY (l.getD (p-1) default) e<0:=by
    have g1:=h2 (by omega);have g2:gY (l.getD (p-1) default) e≠0:=by
     intro e0;apply hf;simp only[y5,hpe,aD,ag];exact⟨by omega,e0⟩
    omega
   by_cases e0:i=p-1
   ·subst e0; exact hlast
   ·exact rF (hlt i (p-1) (by omega) (by omega)) hlast
  have hge: ∀ j,p<=j->j<l.length->gY e (l.getD j default)<0:=by
   intro j hj hjl;have:=h1 j hj hjl;rw[nV]; omega
  refine⟨?_,fun x=>?_⟩
  ·simp only[SS,eT,dj];refine⟨hs.sublist (fW _ _),⟨fun y hy=>?_,hs.sublist (fw _ _)⟩,fun x hx y hy=>?_⟩
   ·rw[fo] at hy;obtain⟨j,hj,rfl⟩:=hy;have:=hge (p+j) (by omega) (by omega);simpa [show p+j<l.length by omega] using this
   ·rw[dz] at hx;obtain⟨i,hi,rfl⟩:=hx;have g1:=hle i (by omega);rw[show l.getD i default=l[i] by simp[show i<l.length by omega]] at g1;rcases br.1 hy with rfl|hy
    ·exact g1
    ·rw[fo] at hy;obtain⟨j,hj,rfl⟩:=hy;have:=hlt i (p+j) (by omega) (by omega);simpa [show p+j<l.length by omega,show i<l.length by omega] using this
  ·simp only[cH,br];constructor
   ·rintro(h|h|h)
    ·exact .inr (cU h)
    ·exact .inl h
    ·exact .inr (gT h)
   ·rintro(h|h)
    ·exact .inr (.inl h)
    ·rw[<- bt p l,cH] at h;rcases h with h|h
     ·exact .inl h
     ·exact .inr (.inr h)
theorem VJ: ∀ (l acc:List Elem),SS acc->SS (l.foldl og acc)/\ ∀ x,x∈l.foldl og acc↔x∈acc\/x∈l:=by
 intro l;induction l with
 |nil=>intro acc h; exact⟨h,by simp⟩
 |cons y l ih =>
  intro acc h;obtain⟨g1,g2⟩:=EX (e:=y) h;obtain⟨h1,h2⟩:=ih (og acc y) g1;refine⟨h1,fun x=>?_⟩;simp only[fX];rw[h2,g2,br];constructor
  ·rintro((h|h)|h)
   ·exact .inr (.inl h)
   ·exact .inl h
   ·exact .inr (.inr h)
  ·rintro(h|h|h)
   ·exact .inl (.inr h)
   ·exact .inl (.inl h)
   ·exact .inr h
theorem filter_lt{l:List Elem}{p q:Elem->Bool}(hpq: ∀ x,p x=true->q x=true){y:Elem}(hy:y∈l)(hq:q y=true)(hp:p y=false):(l.filter p).length<(l.filter q).length:=by
 induction l with
 |nil=>cases hy
 |cons x l ih =>
  have hle: ∀ l:List Elem,(l.filter p).length<=(l.filter q).length:=by
   intro l;induction l with
   |nil=>simp
   |cons z l ih =>
    simp only[fg];by_cases h1:p z=true
    ·rw[bk h1,bk (hpq z h1)]; simp; exact ih
    ·rw[bX h1]; split
     ·simp; omega
     ·exact ih
  simp only[fg];rcases br.1 hy with rfl|hy
  ·rw[bX (by rw[hp]; decide),bk hq];have:=hle l;simp; omega
  ·have:=ih hy;by_cases h1:p x=true
   ·rw[bk h1,bk (hpq x h1)]; simp; exact this
   ·rw[bX h1]; split
    ·simp; omega
    ·exact this
theorem YV(l:List Elem): ∀ (n:Nat) (b:Elem),b∈l->(l.filter fun z=>decide (gY z b<0)).length<=n-> ∃ z∈l,kL z b=true/\l.any (y7 z)=false:=by
 intro n;induction n with
 |zero =>
  intro b hb hn;refine⟨b,hb,zq b,?_⟩;rw[co];intro y hy hab
  have:y∈l.filter fun z=>decide (gY z b<0):=eQ.2 ⟨hy,by simpa using Gl hab⟩
  have:=List.length_pos_of_mem this;omega
 |succ n ih =>
  intro b hb hn;cases hm:l.any (y7 b) with
  |false=>exact⟨b,hb,zq b,hm⟩
  |true =>
   rw[bw] at hm;obtain⟨y,hy,hab⟩:=hm;have hlt:=Gl hab;have hfl:(l.filter fun z=>decide (gY z y<0)).length<(l.filter fun z=>decide (gY z b<0)).length:=by
    refine filter_lt (y:=y) (fun x hx=>?_) hy (by simpa using hlt) (by rw[jO.2 rfl]; decide);simp only[ag] at hx ⊢;exact rF hx hlt
   obtain⟨z,hz,h1,h2⟩:=ih y hy (by omega);exact⟨z,hz,uy h1 (nJ.1 hab).1,h2⟩
theorem Vz(l:List Elem){b:Elem}(hb:b∈l): ∃ z∈l,kL z b=true/\l.any (y7 z)=false:=YV l _ b hb (ba _)
theorem SE{A:List Elem}(hA:SS A): ∀ i,i<=A.length->SS ((A.take i).foldl fJ [])/\ ∀ x,x∈(A.take i).foldl fJ []↔x∈A.take i/\A.any (y7 x)=false:=by
 intro i;induction i with
 |zero=>intro _; simp[SS]
 |succ i ih =>
  intro hi;obtain⟨h1,h2⟩:=ih (by omega);have hil:i<A.length:=by omega
  rw[rE fJ [] default hil];have hlast:A.take (i+1)=A.take i++[A.getD i default]:=by rw[cR]; simp[hil]
  generalize hx:A.getD i default=x at hlast ⊢;have hxA:x∈A:=by rw[<- hx]; simp[hil]
  have hlt: ∀ y∈A.take i,gY y x<0:=by
   intro y hy;rw[dz] at hy;obtain⟨j,hj,rfl⟩:=hy;have:=eC.1 hA j i (by omega) hil (by omega);rw[<- hx]; simpa [hil] using this
  have hself: ∀ z:Elem,¬ gY z z<0:=fun z=>by rw[jO.2 rfl]; decide
  have hbef: ∀ y∈A,gY y x<0->y∈A.take i:=by
   intro y hy hyx;rw[<- bt i A,cH] at hy;rcases hy with hy|hy
   ·exact hy
   ·exfalso;rw[fo] at hy;obtain⟨j,hj,rfl⟩:=hy;by_cases e:j=0
    ·subst e
     have:A[i+0]=x:=by rw[<- hx]; simp[hil]
     rw[this] at hyx; exact hself x hyx
    ·have:=eC.1 hA i (i+j) hil (by omega) (by omega);rw[show A[i]=x by rw[<- hx]; simp[hil]] at this;exact hself x (rF this hyx)
  have hkey:(((A.take i).foldl fJ []).any fun b=>kL b x)=A.any (y7 x):=by
   rw[cK,bw,bw];constructor
   ·rintro⟨b,hb,hbx⟩;obtain⟨hb1,hb2⟩:=(h2 b).1 hb;refine⟨b,cU hb1,nJ.2 ⟨hbx,?_⟩⟩;rintro rfl;exact hself b (hlt b hb1)
   ·rintro⟨y,hy,hyx⟩;obtain⟨z,hz,hz1,hz2⟩:=Vz A hy;have hzx:=uy hz1 (nJ.1 hyx).1;have aii:gY z x<0:=by
     have g1:=Gj hz1;have g2:=Gl hyx;by_cases e:gY z y=0
     ·rw[jO] at e; subst e; exact g2
     ·exact rF (by omega) g2
    exact⟨z,(h2 z).2 ⟨hbef z hz aii,hz2⟩,hzx⟩
  generalize (A.take i).foldl fJ []=K at h1 h2 hkey ⊢;unfold fJ;rw[hkey];cases hm:A.any (y7 x) with
  |true =>
   rw[bk rfl];refine⟨h1,fun y=>?_⟩;rw[h2,hlast];simp only[cH,bl];constructor
   ·rintro⟨a,b⟩; exact⟨.inl a,b⟩
   ·rintro⟨a|a,b⟩
    ·exact⟨a,b⟩
    ·subst a; rw[hm] at b; cases b
  |false =>
   rw[bX (by decide)];refine⟨?_,fun y=>?_⟩
   ·simp only[SS,eT];refine⟨h1,by simp,fun a ha b hb=>?_⟩;rw[bl] at hb; subst hb;exact hlt a ((h2 a).1 ha).1
   ·rw[hlast];simp only[cH,bl,h2];constructor
    ·rintro(⟨a,b⟩|a)
     ·exact⟨.inl a,b⟩
     ·subst a; exact⟨.inr rfl,hm⟩
    ·rintro⟨a|a,b⟩
     ·exact .inl ⟨a,b⟩
     ·exact .inr a
theorem any_congr{a b:List Elem}{p:Elem->Bool}(h: ∀ x,x∈a↔x∈b):a.any p=b.any p:=by
 rw[cK,bw,bw];exact⟨fun⟨x,h1,h2⟩=>⟨x,(h x).1 h1,h2⟩,fun⟨x,h1,h2⟩=>⟨x,(h x).2 h1,h2⟩⟩
theorem Gs(l:List Elem):SS (y8 l)/\ ∀ x,x∈y8 l↔x∈l/\l.any (y7 x)=false:=by
 obtain⟨a1,a2⟩:=VJ l [] (by simp[SS]);have hmem: ∀ x,x∈Lu l↔x∈l:=fun x=>by rw[Lu,a2]; simp
 obtain⟨h1,h2⟩:=SE (A:=Lu l) a1 _ (ba _);rw[bp] at h1 h2;refine⟨h1,fun x=>?_⟩;show x∈(Lu l).foldl fJ []↔_;rw[h2,hmem,any_congr hmem]
theorem bZ(l:List Elem):SS (aK l)/\ ∀ x,x∈aK l↔x∈l/\l.any (y7 x)=false:=by
 refine⟨Lm _,fun x=>?_⟩;rw[aK,wH,eQ];simp[vY]
theorem Az(l:List Elem):aK l=y8 l :=
 zG (bZ l).1 (Gs l).1 fun x=>by rw[(bZ l).2,(Gs l).2]
theorem KP(l:List Elem)(e:Elem):(aK l).any (fun b=>kL b e)=l.any fun b=>kL b e:=by
 rw[cK,bw,bw];constructor
 ·rintro⟨x,h1,h2⟩; exact⟨x,((bZ l).2 x |>.1 h1).1,h2⟩
 ·rintro⟨x,h1,h2⟩;obtain⟨z,hz,hz1,hz2⟩:=Vz l h1;exact⟨z,((bZ l).2 z).2 ⟨hz,hz2⟩,uy hz1 h2⟩
theorem Rz(l:List Elem):aK (aK l)=aK l:=by
 refine zG (bZ _).1 (bZ l).1 fun x=>?_
 rw[(bZ (aK l)).2];constructor
 ·exact fun h=>h.1
 ·intro h;refine⟨h,?_⟩;have:=((bZ l).2 x).1 h;rw[co] at this ⊢;exact fun y hy=>this.2 y (((bZ l).2 y).1 hy).1
theorem mQ{l:List Elem}{x:Elem}(h:x∈aK l):x∈l:=(((bZ l).2 x).1 h).1
theorem uI(l:List Elem):(aK l).length<=l.length:=by
 have h1:=J7 (tq (l.filter (vY l))) (tq (l.filter (vY l))).length;have h2:=OH (l.filter (vY l));have h3:=gN (vY l) l;show(uX _ _).length<=_;omega
end Go.Proofs.YtbdbmfccbpfeoabGreatDoor
