/-
 A part of the proof. No condition.
-/
import Derived.Test.YtbdbmfccbpfeoaaGreatDoorSb
import Derived.Test.YtbdbmfccbpfeoaaGreatDoorLg
import Derived.Test.YtbdbmfccbpfeoaaGreatDoorLe
import Derived.Test.YtbdbmfccbpfeoaaGreatDoorSc
namespace Go.Proofs.YtbdbmfccbpfeoaaGreatDoor
open Go.Ab Go.Proofs
set_option maxRecDepth 100000
def qJ:List Int->List Int->Bool
 |[],[]=>true
 |x::a,y::b=>decide (x<=y)&&qJ a b
 |_,_=>false
def uP(a b:Elem):Bool:=(a.value==b.value)&&qJ a.counts b.counts
theorem sQ: ∀ {a b:List Int},qJ a b=true↔a.length=b.length/\ ∀ j,j<a.length->a.getD j 0<=b.getD j 0:=by
 intro a;induction a with
 |nil=>intro b; cases b<;>simp[qJ]
 |cons x a ih =>
  intro b;cases b with
  |nil=>simp[qJ]
  |cons y b =>
   simp only[qJ,aD,ab,ih,bN];constructor
   ·rintro⟨h1,h2,h3⟩;refine⟨by omega,fun j hj=>?_⟩;cases j with
    |zero=>simpa using h1
    |succ j=>simpa using h3 j (by omega)
   ·rintro⟨h1,h2⟩;exact⟨by simpa using h2 0 (by omega),by omega,fun j hj=>by simpa using h2 (j+1) (by omega)⟩
theorem S.xk(a b:Elem)(ha:a.counts.length<2^40)(_hb:b.counts.length<2^40):aj Tryz.prog 84 [.dat (.elem a),.dat (.elem b)] (.bool (uP a b)):=by
 refine aj.of Bd.xk (by simp) rfl rfl ?_;repeat(refine VC.mk (by first|exact id|exact fun h=>⟨h,h⟩|(intro h; rw[h]; rfl)) ?_)
 refine⟨fun h1=>?_,fun h1=>?_⟩
 ·conv=>whnf
  refine ak.bool ?_;by_cases hv:a.value=b.value
  ·have:qJ a.counts b.counts=false:=by
    rw[gC]; intro h; rw[sQ] at h; simp[hv,h.1] at h1
   simp[uP,this]
  ·simp[uP,hv]
 ·have h2:a.value=b.value/\a.counts.length=b.counts.length:=by
   by_cases hv:a.value=b.value
   ·simp[hv] at h1; exact⟨hv,by omega⟩
   ·simp[hv] at h1
  refine aF.same [3,22,23] (fun i:Nat=>[(24,.int i)]) (fun i=>i<=a.counts.length/\ ∀ j,j<i->a.counts.getD j 0<=b.counts.getD j 0) (fun i=>a.counts.length-i) 0 rfl (by decide) rfl (fun _=>rfl) ⟨by omega,fun j hj=>by omega⟩ ⟨⟨_,rfl,rfl⟩,trivial⟩ ?_;refine⟨rfl,?_⟩;rintro i ⟨hi,hall⟩;refine⟨fun h3=>?_,fun h3=>?_⟩
  ·have hi':i<a.counts.length:=by simpa using h3
   repeat(refine VC.mk (by simp only[Rw.rng] at *; omega) ?_)
   refine⟨fun h4=>?_,fun h4=>?_⟩
   ·conv=>whnf
    refine ak.bool ?_
    have:qJ a.counts b.counts=false:=by
     rw[gC]; intro h; rw[sQ] at h; have:=h.2 i hi'; simp only[be,ab] at h4; omega
    simp[uP,this]
   ·conv=>whnf
    refine .mk (by simp only[okI] at *; omega) ?_;refine⟨i+1,⟨by omega,fun j hj=>?_⟩,by omega,⟨⟨_,rfl,rfl⟩,trivial⟩,?_,rfl⟩
    ·by_cases e:j=i
     ·subst e; simp only[be,ao] at h4; omega
     ·exact hall j (by omega)
    ·repeat' (first|exact trivial|exact⟨_,rfl,rfl⟩|constructor)
  ·conv=>whnf
   refine ak.bool ?_;have hi':a.counts.length<=i:=by simpa using h3
   simp only[uP,aD,bo];rw[cF]; simp only[iff_true];exact⟨h2.1,sQ.2 ⟨h2.2,fun j hj=>hall j (by omega)⟩⟩
def VD(a b:Int):Int:=if a<b then -1 else if b<a then 1 else 0
def cmpL:List Int->List Int->Int
 |[],[]=>0
 |[],_::_=> -1
 |_::_,[]=>1
 |x::a,y::b=>if x<y then -1 else if y<x then 1 else cmpL a b
def iR(a b:Elem):Int:=if a.value<b.value then -1 else if b.value<a.value then 1 else cmpL a.counts b.counts
theorem dh{α:Type}{l:List α}{i:Nat}(d:α)(h:i<l.length):l.drop i=l.getD i d::l.drop (i+1):=by
 rw[eE h]; simp[h]
theorem OW{a b:List Int}{i:Nat}(ha:i<a.length)(hb:i<b.length) :
  cmpL (a.drop i) (b.drop i)=if a.getD i 0<b.getD i 0 then -1 else if b.getD i 0<a.getD i 0 then 1 else cmpL (a.drop (i+1)) (b.drop (i+1)):=by
 rw[dh 0 ha,dh 0 hb]; rfl
theorem Gz{a b:List Int}{i:Nat}(hi:a.length<=i\/b.length<=i)(h1:i<=a.length)(h2:i<=b.length) :
  cmpL (a.drop i) (b.drop i)=if a.length<b.length then -1 else if b.length<a.length then 1 else 0:=by
 by_cases ha:a.length<=i
 ·have e:a.drop i=[]:=cD ha;rw[e];by_cases hb:b.length<=i
  ·rw[cD hb,av (by omega),av (by omega)]; rfl
  ·rw[dh 0 (by omega),ba (by omega)]; rfl
 ·have hb:b.length<=i:=by omega
  rw[cD hb,dh 0 (by omega),av (by omega),ba (by omega)]; rfl
theorem S.cmp_isNaN_int(a:Int):aj Tryz.prog 129 [.int a] (.bool false):=by
 refine aj.of Bd.cmp_isNaN_int (by simp) rfl rfl ?_;refine ak.bool ?_;simp
theorem S.cmp_Compare_int(a b:Int):aj Tryz.prog 94 [.int a,.int b] (.int (VD a b)):=by
 refine aj.of Bd.cmp_Compare_int (by simp) rfl rfl ?_;refine ah.pure (S.cmp_isNaN_int a) rfl ?_;refine ah.pure (S.cmp_isNaN_int b) rfl ?_;refine Fork.mk (fun h1=>by cases h1) (fun _=>?_);refine Fork.mk (fun h1=>by cases h1) (fun _=>?_);refine⟨fun h1=>?_,fun h1=>?_⟩
 ·conv=>whnf
  exact ak.int (by simp only[ab] at h1; simp[VD,h1])
 ·conv=>whnf
  simp only[ao] at h1;refine⟨fun h2=>?_,fun h2=>?_⟩
  ·conv=>whnf
   exact ak.int (by simp only[ab] at h2; simp[VD,h1,h2])
  ·conv=>whnf
   exact ak.int (by simp only[ao] at h2; simp[VD,h1,h2])
theorem S.Lp(a b:List Int)(ha:a.length<2^40)(hb:b.length<2^40):aj Tryz.prog 95 [.row 0 false (.ints a),.row 0 false (.ints b)] (.int (cmpL a b)):=by
 refine aj.of Bd.lG (by simp) rfl rfl ?_;refine aF.same [0,1,9,10] (fun i:Nat=>[(11,.int i)]) (fun i=>i<=a.length/\i<=b.length/\cmpL a b=cmpL (a.drop i) (b.drop i)) (fun i=>a.length-i) 0 rfl (by decide) rfl (fun _=>rfl) ⟨by omega,by omega,rfl⟩ ⟨⟨_,rfl,rfl⟩,trivial⟩ ?_;refine⟨rfl,?_⟩;rintro i ⟨hi,hj,he⟩;refine⟨fun h3=>?_,fun h3=>?_⟩
 ·have hi':i<a.length:=by simpa using h3
  refine .mk (by simp only[Rw.rng] at *; omega) ?_;refine⟨fun h4=>?_,fun h4=>?_⟩
  ·conv=>whnf
   have hb':b.length<=i:=by simpa using h4
   refine ak.int ?_;rw[he,Gz (.inr hb') hi hj,av (by omega),ba (by omega)]
  ·have hb':i<b.length:=by simpa using h4
   refine .mk (by simp only[Rw.rng] at *; omega) ?_;refine ah.pure (S.cmp_Compare_int _ _) rfl ?_;rw[OW hi' hb'] at he;conv=>whnf
   simp only[be];refine⟨fun h5=>?_,fun h5=>?_⟩
   ·conv=>whnf
    refine ak.int ?_;rw[he];simp only[bne_iff_ne,ne_eq] at h5 ⊢;generalize a.getD i 0=x at h5 ⊢;generalize b.getD i 0=y at h5 ⊢;unfold VD at h5 ⊢;by_cases h6:x<y
    ·simp[h6]
    ·by_cases h7:y<x
     ·simp[h6,h7]
     ·simp[h6,h7] at h5
   ·conv=>whnf
    refine .mk (by simp only[okI] at *; omega) ?_;conv=>whnf
    have h6: ¬ a.getD i 0<b.getD i 0/\ ¬ b.getD i 0<a.getD i 0:=by
     simp only[eW] at h5;generalize a.getD i 0=x at h5 ⊢;generalize b.getD i 0=y at h5 ⊢;unfold VD at h5;by_cases h6:x<y
     ·simp[h6] at h5
     ·by_cases h7:y<x
      ·simp[h6,h7] at h5
      ·exact⟨h6,h7⟩
    refine⟨i+1,⟨by omega,by omega,by rw[he,av h6.1,av h6.2]⟩,by omega,⟨⟨_,rfl,rfl⟩,trivial⟩,?_,rfl⟩;repeat' (first|exact trivial|exact⟨_,rfl,rfl⟩|constructor)
 ·have hi':a.length<=i:=by simpa using h3
  refine⟨fun h4=>?_,fun h4=>?_⟩
  ·conv=>whnf
   refine ak.int ?_;rw[he,Gz (.inl hi') hi hj,ba (by simpa using h4)]
  ·conv=>whnf
   refine ak.int ?_
   have:b.length<=a.length:=by simpa using h4
   rw[he,Gz (.inl hi') hi hj,av (by omega),av (by omega)]
theorem S.yc(x y:Int)(f:Bool):aj Tryz.prog 93 [.row 0 f (.ints [x,y])] (.int (if x≠0 then x else y)):=by
 refine aj.of Bd.yc (by simp) rfl rfl ?_;refine aF.same [3,6,7] (fun i:Nat=>[(8,.int i)]) (fun i=>i<=2/\(0<i->x=0)/\(1<i->y=0)) (fun i=>2-i) 0 rfl (by decide) rfl (fun _=>rfl) ⟨by omega,by omega,by omega⟩ ⟨⟨_,rfl,rfl⟩,trivial⟩ ?_;refine⟨rfl,?_⟩;rintro i ⟨hi,h0,h1⟩;refine⟨fun h3=>?_,fun h3=>?_⟩
 ·have hi':i<2:=by simp at h3; omega
  refine .mk (by simp only[Rw.rng,bN,bw]; omega) ?_;refine⟨fun h4=>?_,fun h4=>?_⟩
  ·conv=>whnf
   refine ak.int ?_;simp only[be,bne_iff_ne,ne_eq] at h4 ⊢;by_cases e:i=0
   ·subst e; simp at h4 ⊢; simp[h4]
   ·have:i=1:=by omega
    subst this; simp at h4 ⊢; simp[h0]
  ·conv=>whnf
   refine .mk (by simp only[okI] at *; omega) ?_;refine⟨i+1,⟨by omega,fun _=>?_,fun hlt=>?_⟩,by omega,⟨⟨_,rfl,rfl⟩,trivial⟩,?_,rfl⟩
   ·by_cases e:i=0
    ·subst e; simpa using h4
    ·exact h0 (by omega)
   ·have:i=1:=by omega
    subst this; simpa using h4
   ·repeat' (first|exact trivial|exact⟨_,rfl,rfl⟩|constructor)
 ·have:i=2:=by simp at h3; omega
  subst this;refine ak.int ?_;simp[h0,h1]
theorem S.iW(a b:Elem)(ha:a.counts.length<2^40)(hb:b.counts.length<2^40):aj Tryz.prog 58 [.dat (.elem a),.dat (.elem b)] (.int (iR a b)):=by
 refine aj.of Bd.iW (by simp) rfl rfl ?_;refine ah.pure (S.cmp_Compare_int a.value b.value) rfl ?_;refine ah.pure (S.Lp a.counts b.counts ha hb) rfl ?_;refine ah.pure (S.yc _ _ true) rfl ?_;refine ak.int ?_;unfold iR VD;by_cases h6:a.value<b.value
 ·simp[h6]
 ·by_cases h7:b.value<a.value
  ·simp[h6,h7]
  ·simp[h6,h7]
def eG(l:List Elem):Prop:= ∀ e∈l,e.counts.length<2^40
theorem eG.get{l:List Elem}(h:eG l)(i:Nat):(l.getD i default).counts.length<2^40:=by
 rw[ag];cases e:l[i]? with
 |none=>show([]:List Int).length<2^40; decide
 |some x=>exact h x (cm e)
theorem sS{α:Type}{l:List α}{p:α->Bool}{d:α}{i:Nat}(hi:i<l.length)(h:(l.take i).any p=false):(l.take (i+1)).any p=p (l.getD i d):=by
 rw[cJ,dz,h,cv];simp[hi]
theorem oJ{α:Type}{l:List α}{p:α->Bool}{d:α}{i:Nat}(hi:i<l.length)(h:p (l.getD i d)=true):l.any p=true:=by
 rw[di];exact⟨l[i],bR hi,by simpa [hi] using h⟩
theorem S.jL(l:List Elem)(e:Elem)(f:Bool)(hl:l.length<2^40)(hs:eG l)(he:e.counts.length<2^40):aj Tryz.prog 51 [.row 3 f (.elems l),.dat (.elem e)] (.bool (l.any fun b=>uP b e)):=by
 refine aj.of Bd.jL (by simp) rfl rfl ?_;refine aF.same [3,7,8] (fun i:Nat=>[(9,.int i)]) (fun i=>i<=l.length/\(l.take i).any (fun b=>uP b e)=false) (fun i=>l.length-i) 0 rfl (by decide) rfl (fun _=>rfl) ⟨by omega,by simp⟩ ⟨⟨_,rfl,rfl⟩,trivial⟩ ?_;refine⟨rfl,?_⟩;rintro i ⟨hi,hall⟩;refine⟨fun h3=>?_,fun h3=>?_⟩
 ·have hi':i<l.length:=by simpa using h3
  refine .mk (by simp only[Rw.rng] at *; omega) ?_;refine ah.pure (S.xk _ _ (by simpa using hs.get i) he) rfl ?_;refine⟨fun h4=>?_,fun h4=>?_⟩
  ·conv=>whnf
   refine ak.bool ?_;simp only[be] at h4;exact oJ hi' h4
  ·conv=>whnf
   refine .mk (by simp only[okI] at *; omega) ?_;conv=>whnf
   simp only[be] at h4;refine⟨i+1,⟨by omega,by rw[sS hi' hall]; exact h4⟩,by omega,⟨⟨_,rfl,rfl⟩,trivial⟩,?_,rfl⟩;repeat' (first|exact trivial|exact⟨_,rfl,rfl⟩|constructor)
 ·conv=>whnf
  refine ak.bool ?_;have hi':l.length<=i:=by simpa using h3
  rw[bk hi'] at hall; exact hall
theorem S.zW(a b:List Int)(ha:a.length<2^40)(hb:b.length<2^40):aj Tryz.prog 69 [.row 0 false (.ints a),.row 0 false (.ints b)] (.int (cmpL a b)):=by
 refine aj.of Bd.zW (by simp) rfl rfl ?_;refine aF.same [0,1] (fun i:Nat=>[(5,.int i)]) (fun i=>i<=a.length/\i<=b.length/\cmpL a b=cmpL (a.drop i) (b.drop i)) (fun i=>a.length-i) 0 rfl (by decide) rfl (fun _=>rfl) ⟨by omega,by omega,rfl⟩ ⟨⟨_,rfl,rfl⟩,trivial⟩ ?_;refine⟨rfl,?_⟩;rintro i ⟨hi,hj,he⟩;repeat(refine VC.mk (by first|exact id|exact fun h=>⟨h,h⟩) ?_)
 refine⟨fun h3=>?_,fun h3=>?_⟩
 ·have hi':i<a.length/\i<b.length:=by
   by_cases h:i<a.length
   ·simp[h] at h3; exact⟨h,by omega⟩
   ·simp[h] at h3
  rw[OW hi'.1 hi'.2] at he;obtain⟨hi1,hi2⟩:=hi';repeat(refine VC.mk (by simp only[Rw.rng] at *; omega) ?_)
  refine⟨fun h5=>?_,fun h5=>?_⟩
  ·conv=>whnf
   refine ak.int ?_;simp only[be,ab] at h5;rw[he,ba h5]
  ·conv=>whnf
   repeat(refine VC.mk (by simp only[Rw.rng] at *; omega) ?_)
   simp only[be,ao] at h5;refine⟨fun h6=>?_,fun h6=>?_⟩
   ·conv=>whnf
    refine ak.int ?_;simp only[be,ab] at h6;rw[he,av h5,ba h6]
   ·conv=>whnf
    refine .mk (by simp only[okI] at *; omega) ?_;conv=>whnf
    simp only[be,ao] at h6;refine⟨i+1,⟨by omega,by omega,by rw[he,av h5,av h6]⟩,by omega,⟨⟨_,rfl,rfl⟩,trivial⟩,?_,rfl⟩;repeat' (first|exact trivial|exact⟨_,rfl,rfl⟩|constructor)
 ·have hi':a.length<=i\/b.length<=i:=by
   by_cases h:i<a.length
   ·simp[h] at h3; exact .inr (by omega)
   ·exact .inl (by omega)
  have hx:=Gz hi' hi hj;rw[<- he] at hx;refine⟨fun h4=>?_,fun h4=>?_⟩
  ·conv=>whnf
   refine ak.int ?_;rw[hx,ba (by simpa using h4)]
  ·conv=>whnf
   have h5: ¬ a.length<b.length:=by simpa using h4
   refine⟨fun h6=>?_,fun h6=>?_⟩
   ·conv=>whnf
    refine ak.int ?_;rw[hx,av h5,ba (by simpa using h6)]
   ·conv=>whnf
    refine ak.int ?_;rw[hx,av h5,av (by simpa using h6)]
theorem S.oN(a b:Elem)(ha:a.counts.length<2^40)(hb:b.counts.length<2^40):aj Tryz.prog 29 [.dat (.elem a),.dat (.elem b)] (.int (iR a b)):=by
 refine aj.of Bd.oN (by simp) rfl rfl ?_;refine⟨fun h1=>?_,fun h1=>?_⟩
 ·conv=>whnf
  exact ak.int (by simp only[ab] at h1; simp[iR,h1])
 ·conv=>whnf
  simp only[ao] at h1;refine⟨fun h2=>?_,fun h2=>?_⟩
  ·conv=>whnf
   exact ak.int (by simp only[ab] at h2; simp[iR,h1,h2])
  ·simp only[ao] at h2;refine ah.pure (S.zW a.counts b.counts ha hb) rfl ?_;exact ak.int (by simp[iR,h1,h2])
theorem cmpL_eq: ∀ {a b:List Int},cmpL a b=0↔a=b:=by
 intro a;induction a with
 |nil=>intro b; cases b<;>simp[cmpL]
 |cons x a ih =>
  intro b;cases b with
  |nil=>simp[cmpL]
  |cons y b =>
   simp only[cmpL];split
   ·simp; omega
   ·split
    ·simp; omega
    ·rw[ih]; simp; intro _; omega
theorem lF{a b:Elem}:iR a b=0↔a=b:=by
 obtain⟨v,c⟩:=a; obtain⟨w,d⟩:=b;simp only[iR];split
 ·simp; omega
 ·split
  ·simp; omega
  ·rw[cmpL_eq]; simp; intro _; omega
theorem S.zX(a b:List Elem)(f g:Bool)(ha:a.length<2^40)(hb:b.length<2^40)(sa:eG a)(sb:eG b):aj Tryz.prog 12 [.row 3 f (.elems a),.row 3 g (.elems b)] (.bool (decide (a=b))):=by
 refine aj.of Bd.zX (by simp) rfl rfl ?_;refine⟨fun h1=>?_,fun h1=>?_⟩
 ·conv=>whnf
  refine ak.bool ?_;refine cH ?_;simp at h1;rintro rfl; exact h1 rfl
 ·have hlen:a.length=b.length:=by simp at h1; omega
  refine aF.same [0,1] (fun i:Nat=>[(5,.int i)]) (fun i=>i<=a.length/\a.take i=b.take i) (fun i=>a.length-i) 0 rfl (by decide) rfl (fun _=>rfl) ⟨by omega,by simp⟩ ⟨⟨_,rfl,rfl⟩,trivial⟩ ?_;refine⟨rfl,?_⟩;rintro i ⟨hi,hall⟩;refine⟨fun h3=>?_,fun h3=>?_⟩
  ·have hi':i<a.length:=by simpa using h3
   repeat(refine VC.mk (by simp only[Rw.rng] at *; omega) ?_)
   refine ah.pure (S.oN _ _ (by simpa using sa.get i) (by simpa using sb.get i)) rfl ?_;refine⟨fun h4=>?_,fun h4=>?_⟩
   ·conv=>whnf
    refine ak.bool ?_;refine cH ?_;rintro rfl;simp only[be,bne_iff_ne,ne_eq] at h4;exact h4 (lF.2 rfl)
   ·conv=>whnf
    refine .mk (by simp only[okI] at *; omega) ?_;conv=>whnf
    simp only[be,eW] at h4;rw[lF] at h4;refine⟨i+1,⟨by omega,?_⟩,by omega,⟨⟨_,rfl,rfl⟩,trivial⟩,?_,rfl⟩
    ·rw[cJ,cJ,hall]
     congr 1
     have hb':i<b.length:=by omega
     simp only[ag,bE hi',bE hb',dt] at h4;simp[hi',hb',h4]
    ·repeat' (first|exact trivial|exact⟨_,rfl,rfl⟩|constructor)
  ·conv=>whnf
   refine ak.bool ?_;have hi':a.length<=i:=by simpa using h3
   rw[bk hi',bk (by omega)] at hall;symm; simpa using hall
def EH(n:Int):Bool:=decide (0<=n)&&decide (n<=1048576)
theorem S.kV(l:List Int)(f:Bool)(hl:l.length<2^40):aj Tryz.prog 80 [.row 0 f (.ints l)] (.bool (l.all EH)):=by
 refine aj.of Bd.kV (by simp) rfl rfl ?_;refine aF.same [5,6] (fun i:Nat=>[(7,.int i)]) (fun i=>i<=l.length/\(l.take i).all EH=true) (fun i=>l.length-i) 0 rfl (by decide) rfl (fun _=>rfl) ⟨by omega,by simp⟩ ⟨⟨_,rfl,rfl⟩,trivial⟩ ?_;refine⟨rfl,?_⟩;rintro i ⟨hi,hall⟩;refine⟨fun h3=>?_,fun h3=>?_⟩
 ·have hi':i<l.length:=by simpa using h3
  repeat(refine VC.mk (by first|exact id|(intro h; rw[h]; rfl)|(simp only[Rw.rng] at *; omega)) ?_)
  refine⟨fun h4=>?_,fun h4=>?_⟩
  ·conv=>whnf
   refine ak.bool ?_;simp only[be] at h4;have h5:EH (l.getD i 0)=false:=by
    have key: ∀ x:Int,(decide (x<0)||decide (1048576<x))=true->EH x=false:=by
     intro x h4;unfold EH;by_cases h0:x<0
     ·simp; omega
     ·simp[h0] at h4; simp; omega
    exact key _ h4
   rw[gC];intro h;rw[cA] at h;have:=h l[i] (bR hi');rw[show l.getD i 0=l[i] by simp[hi']] at h5;rw[this] at h5; cases h5
  ·conv=>whnf
   refine .mk (by simp only[okI] at *; omega) ?_;conv=>whnf
   simp only[be] at h4;refine⟨i+1,⟨by omega,?_⟩,by omega,⟨⟨_,rfl,rfl⟩,trivial⟩,?_,rfl⟩
   ·have h5:EH (l.getD i 0)=true:=by
     have key: ∀ x:Int,(decide (x<0)||decide (1048576<x))=false->EH x=true:=by
      intro x h4;unfold EH;by_cases h0:x<0
      ·simp[h0] at h4
      ·simp[h0] at h4; simp; omega
     exact key _ h4
    rw[cJ,List.all_append,hall];simpa [hi'] using h5
   ·repeat' (first|exact trivial|exact⟨_,rfl,rfl⟩|constructor)
 ·conv=>whnf
  refine ak.bool ?_;have hi':l.length<=i:=by simpa using h3
  rw[bk hi'] at hall; exact hall
def dS(e:Elem):Int:=if 6<e.counts.length then 0 else if e.counts.all EH=true then e.counts.sum else 0
theorem IE: ∀ {l:List Int},l.all EH=true->0<=l.sum/\l.sum<=l.length*1048576:=by
 intro l;induction l with
 |nil=>intro _; simp
 |cons x l ih =>
  intro h;simp only[gA,aD,EH,ab] at h;have:=ih h.2;simp only[fI,bN];omega
theorem Sl{l:List Int}(h:l.all EH=true)(i:Nat):(l.take i).all EH=true:=by
 rw[cA] at h ⊢;exact fun x hx=>h x (dj hx)
theorem aa1{l:List Int}{i:Nat}(hi:i<l.length):(l.take (i+1)).sum=(l.take i).sum+l.getD i 0:=by
 rw[cJ,List.sum_append]; simp[hi]
theorem S.oL(e:Elem)(hl:e.counts.length<2^40):aj Tryz.prog 47 [.dat (.elem e)] (.int (dS e)):=by
 refine aj.of Bd.oL (by simp) rfl rfl ?_;repeat(refine VC.mk id ?_)
 refine ah.eY (fun _=>S.kV e.counts false hl) rfl ?_;repeat(refine VC.mk (by first|exact id|(intro h; rw[h]; rfl)) ?_)
 refine⟨fun h1=>?_,fun h1=>?_⟩
 ·conv=>whnf
  refine ak.int ?_;unfold dS;by_cases h:6<e.counts.length
  ·rw[ba h]
  ·rw[av h,av];have h': ¬ (6:Int)<e.counts.length:=by omega
   simp[h'] at h1;intro hh;rw[cA] at hh;obtain⟨x,hx,hx'⟩:=h1;exact absurd (hh x hx) (by simp[hx'])
 ·have h2: ¬ 6<e.counts.length/\e.counts.all EH=true:=by
   by_cases h:(6:Int)<e.counts.length
   ·simp[h] at h1
   ·simp[h] at h1;exact⟨by omega,by rw[cA]; exact h1⟩
  refine aF.same [17,18] (fun i:Nat=>[(19,.int i),(3,.int (e.counts.take i).sum)]) (fun i=>i<=e.counts.length) (fun i=>e.counts.length-i) 0 rfl (by decide) rfl (fun _=>rfl) (by omega) ⟨⟨_,rfl,rfl⟩,⟨_,rfl,rfl⟩,trivial⟩ ?_;refine⟨rfl,?_⟩;rintro i hi;have hb:=IE (Sl h2.2 i);have hb':((e.counts.take i).length:Int)<=6:=by simp; omega
  refine⟨fun h3=>?_,fun h3=>?_⟩
  ·have hi':i<e.counts.length:=by simpa using h3
   have hs:=aa1 hi';have hc:=IE (Sl h2.2 (i+1));have hc':((e.counts.take (i+1)).length:Int)<=6:=by simp; omega
   repeat(refine VC.mk (by first|(simp only[okI,be] at *; rw[<- hs]; omega)|(simp only[okI,Rw.rng] at *; omega)) ?_)
   refine⟨i+1,by omega,by omega,⟨⟨_,rfl,rfl⟩,⟨_,rfl,?_⟩,trivial⟩,?_,rfl⟩
   ·rw[hs]; simp[V.aI,sG]
   ·repeat' (first|exact trivial|exact⟨_,rfl,rfl⟩|constructor)
  ·conv=>whnf
   refine ak.int ?_;have hi':e.counts.length<=i:=by simpa using h3
   rw[bk hi'];simp[dS,h2.1,h2.2]
def CW(x y:Elem):Bool:=uP y x&&(iR y x !=0)
theorem S.lH(x y:Elem)(d:Bool)(hx:x.counts.length<2^40)(hy:y.counts.length<2^40):aj Tryz.prog 134 [.agg [.int x.value,.row 0 false (.ints x.counts),.bool d],.dat (.elem y)] (.bool (CW x y)):=by
 refine aj.of Bd.lH (by simp) rfl rfl ?_;refine ah.pure (S.xk y x hy hx) rfl ?_;repeat(refine VC.mk (by first|exact id|exact fun h=>⟨h,h⟩) ?_)
 refine ah.eY (fun _=>S.iW y x hy hx) rfl ?_;repeat(refine VC.mk id ?_)
 refine ak.bool ?_;cases h:uP y x<;>simp[CW,h]
def ad6(p:Elem->Bool)(l:List Elem):Int:=if l.any p=true then(l.findIdx p:Int) else -1
theorem N9{p:Elem->Bool}{l:List Elem}{i:Nat}(hi:i<l.length)(h0:(l.take i).any p=false)(h1:p (l.getD i default)=true):l.findIdx p=i:=by
 rw[List.findIdx_eq hi];refine⟨by simpa [hi] using h1,fun j hj=>?_⟩;rw[dv] at h0;have:=h0 l[j] (by rw[eD]; exact⟨j,by omega,rfl⟩);simpa using this
theorem S.VE(l:List Elem)(x:Elem)(d f:Bool)(hl:l.length<2^40)(hs:eG l)(hx:x.counts.length<2^40) :
  aj Tryz.prog 157 [.row 3 f (.elems l),.fn (134+4096) [.int x.value,.row 0 false (.ints x.counts),.bool d]] (.int (ad6 (CW x) l)):=by
 refine aj.of Bd.fB (by simp) rfl rfl ?_;refine aF.same [0,1,6,7] (fun i:Nat=>[(8,.int i)]) (fun i=>i<=l.length/\(l.take i).any (CW x)=false) (fun i=>l.length-i) 0 rfl (by decide) rfl (fun _=>rfl) ⟨by omega,by simp⟩ ⟨⟨_,rfl,rfl⟩,trivial⟩ ?_;refine⟨rfl,?_⟩;rintro i ⟨hi,hall⟩;refine⟨fun h3=>?_,fun h3=>?_⟩
 ·have hi':i<l.length:=by simpa using h3
  refine .mk (by simp only[Rw.rng] at *; omega) ?_;refine ah.pure (S.lH x (l.getD i default) d hx (hs.get i)) rfl ?_;refine⟨fun h4=>?_,fun h4=>?_⟩
  ·conv=>whnf
   refine ak.int ?_;rw[ad6,ba (oJ hi' h4),N9 hi' hall h4]
  ·conv=>whnf
   refine .mk (by simp only[okI] at *; omega) ?_;refine⟨i+1,⟨by omega,by rw[sS hi' hall]; exact h4⟩,by omega,⟨⟨_,rfl,rfl⟩,trivial⟩,?_,rfl⟩;repeat' (first|exact trivial|exact⟨_,rfl,rfl⟩|constructor)
 ·conv=>whnf
  refine ak.int ?_;have hi':l.length<=i:=by simpa using h3
  rw[bk hi'] at hall;rw[ad6,hall]; rfl
theorem S.Oa(l:List Elem)(x:Elem)(d f:Bool)(hl:l.length<2^40)(hs:eG l)(hx:x.counts.length<2^40) :
  aj Tryz.prog 135 [.row 3 f (.elems l),.fn (134+4096) [.int x.value,.row 0 false (.ints x.counts),.bool d]] (.bool (l.any (CW x))):=by
 refine aj.of Bd.dU (by simp) rfl rfl ?_;refine ah.pure (S.VE l x d f hl hs hx) rfl ?_;refine ak.bool ?_;unfold ad6;cases h:l.any (CW x)
 ·simp
 ·simp
theorem S.nM(a b:Elem)(ha:a.counts.length<2^40)(hb:b.counts.length<2^40):aj Tryz.prog 60 [.dat (.elem a),.dat (.elem b)] (.bool (decide (a=b))):=by
 refine aj.of Bd.nM (by simp) rfl rfl ?_;refine ah.pure (S.iW a b ha hb) rfl ?_;refine ak.bool ?_;rw[cF]; simp only[ab,bo];exact lF.symm
theorem ak.elem{e:Elem}{n ty:Nat}{h:Hz}(q:h.get n=some (.row ty 0 (.ints e.counts) [])):ak (.dat (.elem e)) (.agg [.int e.value,.own n]) h:=⟨by
 show T.sub (fun _=>True) h.au (fG e) (.agg [.int e.value,.own n]);simp only[fG,T.sub,T.dG,and_true];refine⟨trivial,trivial,trivial,?_,by decide,ty,?_⟩
 ·rw[ig]; intro t ht; obtain⟨x,_,rfl⟩:=bA.1 ht; rfl
 ·have:=aP q; simpa [OV.ay,Rw.aQ,V.aQ] using this⟩
theorem S.CX(e:Elem)(he:e.counts.length<2^40):aj Tryz.prog 30 [.dat (.elem e)] (.dat (.elem e)):=by
 refine aj.of Bd.CX (by simp) rfl rfl ?_;refine .mk (by simp only[mD,mV,Rw.len]; omega) ?_;exact ak.elem (ty:=3) rfl
theorem S.kQ(e:Elem)(d:Bool)(he:e.counts.length<2^40):aj Tryz.prog 136 [.agg [.int e.value,.row 0 false (.ints e.counts),.bool d]] (.dat (.elem e)):=by
 refine aj.of Bd.kQ (by simp) rfl rfl ?_;refine .mk (by simp only[mD,mV,Rw.len]; omega) ?_;exact ak.elem (ty:=3) rfl
theorem ah.lend{P:Program}{dr:Bool}{f:FuncId}{args args':List V}{res:V}{h:Hz}{n:Nat}{K:V->Hz->Prop}{KW:Nat->V->Hz->Prop}(S:aj P f args' res)(hs:T.dG (fun _=>True) h.au (V.aQ args') (V.aQ args))(hh:res.aI.hard=true)(hr:res.free=true)(hK:K res h):ah P dr none f args h n K KW :=
 ⟨.inl (zL.lend S hs hh (fun _ e=>by cases e) ⟨res,h,rfl,rfl,fun _=>⟨rfl,V.iZ res hr⟩,hK⟩)⟩
theorem FD(l:List Elem):T.bG (l.map fG)=true:=by
 rw[ig]; intro t ht; obtain⟨x,_,rfl⟩:=bA.1 ht; rfl
theorem dH.of_eq{a b:List T}(h:a=b):dH a b:=by subst h; exact .refl _
theorem ah.aa2{P:Program}{dr b:Bool}{f:FuncId}{args args':List V}{res:V}{h:Hz}{n:Nat}{K:V->Hz->Prop}{KW:Nat->V->Hz->Prop}(S:b=true->aj P f args' res)(hs:b=true->T.dG (fun _=>True) h.au (V.aQ args') (V.aQ args))(hh:res.aI.hard=true)(hr:res.free=true)(hK:K res h):ah P dr (some b) f args h n K KW :=
 ⟨.inl (.inl ⟨res,fun e=>zL.lend (S e) (hs e) hh (fun _ e=>by cases e) ⟨rfl,rfl⟩,hr,hK⟩)⟩
abbrev bT(l:List Elem):OV:=.row 40 3 (.elems l) []
theorem KY{h:Hz}{j:Nat}{l:List Elem}{Z:Nat->Prop}(hz:Z j)(q:h.get j=some (bT l)):T.sub Z h.au (V.row 3 false (.elems l)).aI (V.own j).aI:=by
 show T.sub Z h.au (.sl 3 false (l.map fG)) (.own j);simp only[T.sub];refine⟨trivial,hz,FD l,by decide,40,?_⟩;have:=aP q; simpa [OV.ay,Rw.aQ,V.aQ] using this
theorem ak.agu{h:Hz}{j:Nat}{l:List Elem}(q:h.get j=some (bT l)):ak (.row 3 false (.elems l)) (.own j) h:=⟨KY trivial q⟩
def wI(l:List Elem)(e:Elem):Nat->Nat
 |0=>0
 |i+1=>if 0<iR (l.getD i default) e then wI l e i else i+1
def AZ(l:List Elem)(e:Elem):Bool:=decide (0<wI l e l.length)&&decide (iR (l.getD (wI l e l.length-1) default) e=0)
def wF(l:List Elem)(e:Elem):List Elem:=if AZ l e=true then l else l.take (wI l e l.length)++e::l.drop (wI l e l.length)
theorem Xy{l:List Elem}{e:Elem}: ∀ i,wI l e i<=i:=by
 intro i;induction i with
 |zero=>exact bO _
 |succ i ih=>simp only[wI]; split<;>omega
theorem aa3(i:Nat):((i:Int)-1).toNat=i-1:=by omega
theorem gtP{l:List Elem}{e:Elem}{i:Nat}:(decide ((0:Int)<i)&&decide (0<iR (l.getD ((i:Int)-1).toNat default) e))=true↔0<i/\0<iR (l.getD (i-1) default) e:=by
 rw[aa3,aD,ab,ab];exact⟨fun h=>⟨by omega,h.2⟩,fun h=>⟨by omega,h.2⟩⟩
theorem eqP{l:List Elem}{e:Elem}{i:Nat}:(decide ((0:Int)<i)&&(iR (l.getD ((i:Int)-1).toNat default) e==0))=(decide (0<i)&&decide (iR (l.getD (i-1) default) e=0)):=by
 rw[aa3];have h1:decide ((0:Int)<i)=decide (0<i):=decide_eq_decide.2 (by omega);rw[h1]; rfl
abbrev h1(l:List Elem):Hz:=[(0,some (bT l))]
def Vg(l:List Elem)(k:Nat):List Elem:=l.take k++l.getD k default::l.drop k
theorem Xz(l:List Elem)(k:Nat):(Vg l k).length=l.length+1:=by simp[Vg]; omega
theorem aa4{l:List Elem}{k:Nat}(h:k<=l.length)(x:Elem):(Vg l k).set k x=l.take k++x::l.drop k:=by
 unfold Vg;rw[f9 _ _ (by simp; omega)];simp[Nat.min_eq_left h]
theorem ad7{l:List Elem}{k:Nat}(h:k<l.length):(Vg l (k+1)).getD k default=l.getD k default:=by
 unfold Vg;rw[ag,cX (by simp; omega),cU (by omega),ag]
theorem aa5{l:List Elem}{k:Nat}(h:k<l.length):(Vg l (k+1)).set (k+1) ((Vg l (k+1)).getD k default)=Vg l k:=by
 rw[aa4 (by omega),ad7 h];unfold Vg;rw[cJ,ax,dh default h]
 congr 1
 simp[h]
theorem zero_sub(l:List Elem):dH (bT (Vg l l.length)).ay.l (OV.row 40 3 (.elems l) [V.agg (ofL [T.int 0,T.nil])]).ay.l:=by
 intro Z h;have e:(bT (Vg l l.length)).ay.l=l.map fG++[fG default]:=by
  simp[OV.ay,Rw.aQ,V.aQ,Vg]
 rw[e];refine Jz (dL _) ?_;refine⟨?_,trivial⟩;show T.sub Z h (.agg [.int 0,.sl 0 false []]) (.agg [.int 0,.sl 0 true []]);simp[T.sub,T.dG]
theorem VB{l:List Elem}{n:Nat}(hn:0<n):Hz.get n (h1 l)=none:=by
 show(bif Nat.beq 0 n then some (bT l) else none)=none;rw[ahW,av (by omega)]
theorem S.xU(l:List Elem)(e:Elem)(n:Nat)(hn:0<n)(hl:l.length<2^30)(hs:eG l)(he:e.counts.length<2^30) :
  aO Tryz.prog 11 (V.aQ [.own 0,.dat (.elem e)]) (h1 l).au n (fun t hp=>(AZ l e=true/\t= .own 0/\hp=(h1 l).au)\/(AZ l e=false/\t= .own n/\hp=Hz.au [(n,some (bT (wF l e)))])):=by
 refine og.of (nx:=1) Bd.xU (by simp) ?_ rfl rfl ?_
 ·cases h:AZ l e
  ·exact⟨_,_,.inr ⟨rfl,rfl,rfl⟩⟩
  ·exact⟨_,_,.inl ⟨rfl,rfl,rfl⟩⟩
 refine aF.same [0,3] (fun i:Nat=>[(5,.int i)]) (fun i=>i<=l.length/\wI l e l.length=wI l e i) (fun i=>i) l.length rfl (by decide) rfl (fun _=>rfl) ⟨by omega,rfl⟩ ⟨⟨_,rfl,rfl⟩,trivial⟩ ?_;refine⟨rfl,?_⟩;rintro i ⟨hi,hpos⟩;repeat(refine VC.mk (by first|exact fun h=>⟨h,h⟩|(intro h; (repeat' apply And.intro)<;>first|exact h|omega|(simp only[Rw.sH]; omega)|(simp only[Rw.rng]; omega))|(simp only[Rw.rng] at *; first|omega|(simp_all; omega))) ?_)
 refine ah.eY (fun _=>S.oN _ _ (by first|exact hs.get _|(have:=hs.get ((i:Int)-1).toNat; omega)) (by omega)) rfl ?_;repeat(refine VC.mk id ?_)
 refine⟨fun h3=>?_,fun h3=>?_⟩
 ·rw[gtP] at h3;obtain⟨h4,h5⟩:=h3;refine .mk (by simp only[okI] at *; first|omega|(simp_all; omega)) ?_;refine⟨i-1,⟨by omega,?_⟩,by omega,⟨⟨_,rfl,?_⟩,trivial⟩,?_,rfl⟩
  ·rw[hpos];obtain⟨k,rfl⟩: ∃ k,i=k+1:=⟨i-1,by omega⟩
   simp only[wI,Nat.add_sub_cancel] at h5 ⊢;rw[ba h5]
  ·show T.int ((i-1:Nat):Int)=T.int ((i:Int)-1)
   congr 2; omega
  ·repeat' (first|exact trivial|exact⟨_,rfl,rfl⟩|constructor)
 ·rw[gC,ne_eq,gtP] at h3;have hp:wI l e l.length=i:=by
   rw[hpos];cases i with
   |zero=>rfl
   |succ k=>simp only[wI]; rw[av (fun h=>h3 ⟨by omega,by simpa using h⟩)]
  clear hpos h3;subst hp;repeat(refine VC.mk (by first|exact fun h=>⟨h,h⟩|(intro h; (repeat' apply And.intro)<;>first|exact h|omega|(simp only[Rw.sH]; omega)|(simp only[Rw.rng]; omega))|(simp only[Rw.rng] at *; first|omega|(simp_all; omega))) ?_)
  refine ah.eY (fun _=>S.oN _ _ (hs.get _) (by omega)) rfl ?_;repeat(refine VC.mk id ?_)
  rw[eqP];refine⟨fun h3=>?_,fun h3=>?_⟩
  ·conv=>whnf
   refine gG.one (c:=0) (j:=0) (o:=bT l) (t:=.own 0) rfl rfl rfl (fun _=>rfl) (.inl rfl) rfl (.eq rfl) (.inl ⟨h3,rfl,rfl⟩)
  ·conv=>whnf
   repeat(refine VC.mk (by first|(show(l.length+(0+1))*32<=140737488355328/\l.length+(0+1)<=1152921504606846976; omega)|(show okI ((l.length:Int)+((0+1:Nat):Int)-1); simp only[okI]; omega)) ?_)
   refine aF.objs 3 [3,5] (fun k:Nat=>[(0,.own 2),(6,.int k)]) (fun k=>[(1,.box 40 3 (.dat (.elem e))),(2,bT (Vg l k))]) (fun k=>wI l e l.length<=k/\k<=l.length) (fun k=>k) l.length [1,33] rfl (by decide) (fun _=>rfl) ⟨hi,bO _⟩ ?_ ?_ ?_
   ·refine⟨⟨_,rfl,.eq rfl⟩,⟨_,rfl,.eq ?_⟩,trivial⟩;show T.int (l.length:Int)=T.int ((l.length:Int)+((0+1:Nat):Int)-1)
    congr 2; omega
   ·refine⟨gK rfl rfl,⟨rfl,nofun,rfl,rfl,rfl,_,rfl,rfl,rfl,zero_sub l⟩,trivial⟩
   ·conv=>whnf
    refine⟨(sR rfl),rfl,?_⟩;rintro k ⟨hk1,hk2⟩;refine⟨fun h4=>?_,fun h4=>?_⟩
    ·have h5:wI l e l.length<k:=by simpa using h4
     obtain⟨k,rfl⟩: ∃ j,k=j+1:=⟨k-1,by omega⟩
     have e1:((((k+1:Nat):Int))-1).toNat=k:=by omega
     have e2:(((k+1:Nat):Int)).toNat=k+1:=rfl;repeat(refine VC.mk (by simp only[Rw.rng,Xz,okI]; omega) ?_)
     refine⟨k,[1,2],⟨by omega,by omega⟩,by omega,⟨⟨_,rfl,.eq rfl⟩,⟨_,rfl,.eq ?_⟩,trivial⟩,(sR rfl),gK rfl rfl,⟨rfl,nofun,rfl,rfl,rfl,_,rfl,rfl,rfl,?_⟩,trivial⟩
     ·show T.int (k:Int)=T.int (((k+1:Nat):Int)-1)
      congr 2; omega
     ·rw[e1,e2,aa5 (by omega)]; exact .refl _
    ·have hk:k=wI l e l.length:=by
      have: ¬ wI l e l.length<k:=by simpa using h4
      omega
     clear h4;refine ah.pure (S.CX e (by omega)) rfl ?_;repeat(refine VC.mk (by simp only[Rw.rng,Xz]; omega) ?_)
     refine gG.one (c:=n) (j:=2) (o:=bT ((Vg l k).set (wI l e l.length:Int).toNat e)) (t:=.own n) rfl rfl rfl ?_ (.inr rfl) rfl (.eq rfl) (.inr ⟨h3,rfl,?_⟩)
     ·rw[VB hn]; intro h; cases h
     ·have:(Vg l k).set (wI l e l.length:Int).toNat e=wF l e:=by
       rw[wF,av (by rw[show AZ l e=false from h3]; simp)];rw[hk]; exact aa4 (by omega) e
      rw[this]
def rP(out:List Elem)(x:Elem):List Elem:=if(out.any fun b=>uP b x)=true then out else out++[x]
theorem aa6{l:List Elem}{e:Elem}:(wF l e).length<=l.length+1:=by
 unfold wF; split
 ·omega
 ·simp; have:=Xy (l:=l) (e:=e) l.length; omega
theorem aa7{l:List Elem}{e x:Elem}(h:x∈wF l e):x=e\/x∈l:=by
 unfold wF at h; split at h
 ·exact .inr h
 ·simp only[cN,bm] at h;rcases h with h|h|h
  ·exact .inr (dj h)
  ·exact .inl h
  ·exact .inr (gD h)
theorem Lh{α β:Type}(f:β->α->β)(b:β){l:List α}{i:Nat}(d:α)(h:i<l.length):(l.take (i+1)).foldl f b=f ((l.take i).foldl f b) (l.getD i d):=by
 rw[cJ,eJ]; simp[h]
theorem aa8: ∀ (l acc:List Elem),(l.foldl wF acc).length<=acc.length+l.length:=by
 intro l;induction l with
 |nil=>intro acc; simp
 |cons x l ih=>intro acc; simp only[dq,bN]; have:=ih (wF acc x); have:=aa6 (l:=acc) (e:=x); omega
theorem aa9: ∀ (l acc:List Elem) (x:Elem),x∈l.foldl wF acc->x∈acc\/x∈l:=by
 intro l;induction l with
 |nil=>intro acc x h; exact .inl h
 |cons y l ih =>
  intro acc x h;simp only[dq] at h;rcases ih _ _ h with h|h
  ·rcases aa7 h with h|h
   ·exact .inr (by simp[h])
   ·exact .inl h
  ·exact .inr (by simp[h])
theorem Y0{l:List Elem}{e:Elem}:(rP l e).length<=l.length+1:=by
 unfold rP; split
 ·omega
 ·simp
theorem aa0: ∀ (l acc:List Elem),(l.foldl rP acc).length<=acc.length+l.length:=by
 intro l;induction l with
 |nil=>intro acc; simp
 |cons x l ih=>intro acc; simp only[dq,bN]; have:=ih (rP acc x); have:=Y0 (l:=acc) (e:=x); omega
theorem abb: ∀ (l acc:List Elem) (x:Elem),x∈l.foldl rP acc->x∈acc\/x∈l:=by
 intro l;induction l with
 |nil=>intro acc x h; exact .inl h
 |cons y l ih =>
  intro acc x h;simp only[dq] at h;rcases ih _ _ h with h|h
  ·unfold rP at h; split at h
   ·exact .inl h
   ·simp only[cN,bt] at h;rcases h with h|h
    ·exact .inl h
    ·exact .inr (by simp[h])
  ·exact .inr (by simp[h])
theorem Ll{l:List Elem}(h:eG l)(i:Nat):eG ((l.take i).foldl rP []):=fun x hx=>by
 rcases abb _ _ _ hx with h'|h'
 ·cases h'
 ·exact h x (dj h')
def VA(l:List Elem):Prop:= ∀ e∈l,e.counts.length<2^30
theorem VA.e{l:List Elem}(h:VA l):eG l:=fun e he=>by have:=h e he; omega
def vF(l:List Elem):Nat->List Elem
 |0=>[]
 |n+1=>if n=0\/l.getD n default≠l.getD (n-1) default then vF l n++[l.getD n default] else vF l n
theorem Gu(l:List Elem): ∀ n,(vF l n).length<=n:=by
 intro n;induction n with
 |zero=>exact bO _
 |succ n ih =>
  simp only[vF]; split
  ·simp; omega
  ·omega
theorem ad8{l:List Elem}{x:Elem}: ∀ {n},x∈vF l n->n<=l.length->x∈l:=by
 intro n;induction n with
 |zero=>intro h; cases h
 |succ n ih =>
  intro h hn;simp only[vF] at h;split at h
  ·rcases cN.1 h with h|h
   ·exact ih h (by omega)
   ·rw[bt] at h; subst h;simp[show n<l.length by omega]
  ·exact ih h (by omega)
abbrev zeroV:V:=.agg [.int 0,.row 0 true .nil]
def mid(l:List Elem)(j:Nat):List Elem:=vF l j++l.drop (vF l j).length
theorem ad9{l:List Elem}{j:Nat}(h:j<=l.length):(mid l j).length=l.length:=by
 have:=Gu l j;simp[mid]; omega
theorem XA{l:List Elem}{j i:Nat}(h:(vF l j).length<=i):(mid l j).getD i default=l.getD i default:=by
 unfold mid;rw[ag,ci h,cQ,ag]
 congr 2; omega
theorem aea{l:List Elem}{j:Nat}(hj:j<l.length)(h:j=0\/l.getD j default≠l.getD (j-1) default):(mid l j).set (vF l j).length (l.getD j default)=mid l (j+1):=by
 have hl:=Gu l j;have e:vF l (j+1)=vF l j++[l.getD j default]:=by simp only[vF]; rw[ba h]
 unfold mid;rw[e,f9 _ _ (bO _),fe,dh default (show(vF l j).length<l.length by omega)];simp
theorem Sm{l:List Elem}{j:Nat}(h0:j≠0)(h:l.getD j default=l.getD (j-1) default):vF l (j+1)=vF l j:=by
 simp only[vF]; rw[av]; intro q; rcases q with q|q
 ·exact h0 q
 ·exact q h
theorem Lr{l:List Elem}{k:Nat}(hk:k<=l.length)(h: ∀ i,0<i->i<k->l.getD i default≠l.getD (i-1) default):vF l k=l.take k:=by
 induction k with
 |zero=>rfl
 |succ k ih =>
  simp only[vF];rw[ba,ih (by omega) fun i h1 h2=>h i h1 (by omega),cJ]
  ·simp[show k<l.length by omega]
  ·by_cases h0:k=0
   ·exact .inl h0
   ·exact .inr (h k (by omega) (by omega))
theorem Lm(l:List Elem)(m nx:Nat):(OV.row 40 3 (.elems l) (List.replicate m zeroV)).good nx=true:=by
 have h1:GH 3 (List.replicate m zeroV)=true:=by
  induction m with
  |zero=>rfl
  |succ m ih=>simp only[eV,GH,ih,dx]; rfl
 have h2:T.J9 nx (V.aQ (List.replicate m zeroV))=true:=by
  clear h1;induction m with
  |zero=>rfl
  |succ m ih=>simp only[eV,V.aQ,T.J9,ih,dx]; rfl
 simp only[OV.good,h1,h2]; rfl
theorem Gt(l:List Elem)(m:Nat):(OV.row 40 3 (.elems l) (List.replicate m zeroV)).Ce=true:=by
 simp only[OV.Ce];induction m with
 |zero=>rfl
 |succ m ih=>simp only[eV,V.bG,ih,dx]; rfl
def vO(l:List Elem):List Elem:=vF l l.length
theorem S.Sr(l:List Elem)(n:Nat)(hl:l.length<2^30)(hs:eG l) :
  aO Tryz.prog 59 (V.aQ [.own 0,.fn 60 []]) (h1 l).au n
   (fun t hp=>(vO l=l/\t= .own 0/\hp=(h1 l).au)\/(∃ m,t= .oG 0 0 (vO l).length/\hp=Hz.au [(0,some (.row 40 3 (.elems (vO l)) (List.replicate m zeroV)))])):=by
 refine og.of (nx:=1) Bd.eH (by simp) ⟨_,_,.inr ⟨0,rfl,rfl⟩⟩ rfl rfl ?_;refine⟨fun h1=>?_,fun h1=>?_⟩
 ·conv=>whnf
  have hc:vO l=l:=by
   have h2:l.length<2:=by simp at h1; omega
   rw[vO,Lr (bO _) (fun i h3 h4=>by omega),cB]
  exact gG.one (c:=0) (j:=0) (o:=bT l) (t:=.own 0) rfl rfl rfl (fun _=>rfl) (.inl rfl) rfl (.eq rfl) (.inl ⟨hc,rfl,rfl⟩)
 ·have h2:2<=l.length:=by simp at h1; omega
  refine aF.same [0,1] (fun i:Nat=>[(5,.int i)]) (fun i=>1<=i/\i<=l.length/\ ∀ k,0<k->k<i->l.getD k default≠l.getD (k-1) default) (fun i=>l.length-i) 1 rfl (by decide) rfl (fun _=>rfl) ⟨by omega,by omega,fun k h3 h4=>by omega⟩ ⟨⟨_,rfl,rfl⟩,trivial⟩ ?_;refine⟨rfl,?_⟩;rintro k ⟨hk0,hk,hne⟩;have e1:((k:Int)-1).toNat=k-1:=by omega
  refine⟨fun h3=>?_,fun h3=>?_⟩
  ·have hk':k<l.length:=by simpa using h3
   repeat(refine VC.mk (by simp only[okI,Rw.rng]; omega) ?_)
   refine ah.pure (S.nM _ _ (hs.get _) (hs.get _)) rfl ?_;refine⟨fun h4=>?_,fun h4=>?_⟩
   ·have heq:l.getD k default=l.getD (k-1) default:=by
     rw[e1] at h4; simpa using h4
    have hdk:vF l k=l.take k:=Lr hk hne;have agz:vF l (k+1)=l.take k:=by rw[Sm (by omega) heq,hdk]
    refine .mk (by simp only[Rw.sH]; omega) ?_;refine aF.objs 1 [0,1,6] (fun j:Nat=>[(7,.int j),(5,.int (vF l (k+j)).length)]) (fun j=>[(0,bT (mid l (k+j)))]) (fun j=>1<=j/\k+j<=l.length/\(vF l (k+j)).length+1<=k+j) (fun j=>l.length-j) 1 [0] rfl (by decide) (fun _=>rfl) ⟨by omega,by omega,?_⟩ ?_ ?_ ?_
    ·rw[agz]; simp; omega
    ·refine⟨⟨_,rfl,.eq rfl⟩,⟨_,rfl,.eq ?_⟩,trivial⟩;rw[agz];show T.int (((l.take k).length:Nat):Int)=T.int (k:Int);simp[Nat.min_eq_left hk]
    ·refine⟨⟨rfl,(fun _=>rfl),rfl,rfl,rfl,_,rfl,rfl,rfl,dH.of_eq ?_⟩,trivial⟩
     have:mid l (k+1)=l:=by unfold mid; rw[agz]; simp[Nat.min_eq_left hk]
     rw[this]
    refine⟨(sR rfl),rfl,?_⟩;rintro j ⟨hj0,hj,hdl⟩;have hml:=ad9 hj;have e2:((j:Int)-1).toNat=j-1:=by omega
    have hsm:eG (mid l (k+j)):=fun x hx=>by
     unfold mid at hx;rcases cN.1 hx with hx|hx
     ·exact hs x (ad8 hx hj)
     ·exact hs x (gD hx)
    refine⟨fun h5=>?_,fun h5=>?_⟩
    ·have hj':k+j<l.length:=by
      have h6:j<l.length-k:=by
       have:(j:Int)<(((Rw.elems l).len-k:Nat):Int):=by simpa using h5
       have e3:(Rw.elems l).len=l.length:=rfl;rw[e3] at this;omega
      omega
     have g1:=XA (l:=l) (j:=k+j) (i:=k+j) (by omega);have g2:=XA (l:=l) (j:=k+j) (i:=k+(j-1)) (by omega);repeat(refine VC.mk (by first|(simp only[okI]; omega)|(show _/\_<(((l.length-k:Nat)):Int); omega)|(simp only[Rw.rng,hml,be,e2]; omega)|(show(0:Int)<=_/\_<((mid l (k+j)).length:Int); rw[hml]; simp only[be,e2]; omega)) ?_)
     refine ah.pure (S.nM _ _ (hsm.get _) (hsm.get _)) rfl ?_;simp only[be,e2,g1,g2];conv=>whnf
     have e4:k+(j-1)=k+j-1:=by omega
     refine⟨fun h6=>?_,fun h6=>?_⟩
     ·have hne':l.getD (k+j) default≠l.getD (k+j-1) default:=by
       rw[e4] at h6; simpa using h6
      have hst:=aea hj' (.inr hne');have hd1:vF l (k+j+1)=vF l (k+j)++[l.getD (k+j) default]:=by simp only[vF]; rw[ba (.inr hne')]
      repeat(refine VC.mk (by first|(simp only[okI]; omega)|(show _/\_<(((l.length-k:Nat)):Int); omega)|(simp only[Rw.rng,hml,be]; omega)|(show(0:Int)<=_/\_<((mid l (k+j)).length:Int); rw[hml]; simp only[be]; omega)) ?_)
      refine⟨j+1,[0],⟨by omega,by omega,?_⟩,by omega,⟨⟨_,rfl,.eq rfl⟩,⟨_,rfl,.eq ?_⟩,trivial⟩,(sR rfl),⟨rfl,(fun _=>rfl),rfl,rfl,rfl,_,rfl,rfl,rfl,dH.of_eq ?_⟩,trivial⟩
      ·show(vF l (k+j+1)).length+1<=k+(j+1);rw[hd1]; simp; omega
      ·show T.int (((vF l (k+j+1)).length:Nat):Int)=T.int (((vF l (k+j)).length:Int)+1);rw[hd1]; simp
      ·show(bT (mid l (k+j+1))).ay.l=(OV.row 40 3 (.elems ((mid l (k+j)).set (((vF l (k+j)).length:Int)).toNat ((mid l (k+j)).getD ((k:Int).toNat+(j:Int).toNat) default))) []).ay.l;simp only[be,g1,hst]
     ·have heq':l.getD (k+j) default=l.getD (k+j-1) default:=by
       rw[e4] at h6; simpa using h6
      have hd1:vF l (k+j+1)=vF l (k+j):=Sm (by omega) heq';refine .mk (by simp only[okI] at *; omega) ?_;refine⟨j+1,[0],⟨by omega,by omega,?_⟩,by omega,⟨⟨_,rfl,.eq rfl⟩,⟨_,rfl,.eq ?_⟩,trivial⟩,(sR rfl),⟨rfl,(fun _=>rfl),rfl,rfl,rfl,_,rfl,rfl,rfl,dH.of_eq ?_⟩,trivial⟩
      ·show(vF l (k+j+1)).length+1<=k+(j+1);rw[hd1]; omega
      ·show T.int (((vF l (k+j+1)).length:Nat):Int)=T.int ((vF l (k+j)).length:Int);rw[hd1]
      ·show(bT (mid l (k+j+1))).ay.l=(bT (mid l (k+j))).ay.l;unfold mid; rw[hd1]
    ·have hj':k+j=l.length:=by
      have h6: ¬ (j:Int)<(((Rw.elems l).len-k:Nat):Int):=by simpa using h5
      have e3:(Rw.elems l).len=l.length:=rfl;rw[e3] at h6;omega
     have ajQ:(vF l (k+j)).length<=l.length:=by have:=Gu l (k+j); omega
     repeat(refine VC.mk (by first|(simp only[Rw.sH,hml]; omega)|(refine⟨?_,rfl⟩; show((vF l (k+j)).length:Int).toNat<=(mid l (k+j)).length; rw[hml,be]; omega)|(show(0:Int)<=((vF l (k+j)).length:Int)/\((vF l (k+j)).length:Int)<=(((mid l (k+j)).take ((vF l (k+j)).length:Int).toNat).length:Int); rw[bL,hml,be]; omega)|(show _<=(mid l (k+j)).length/\(mid l (k+j)).length=(mid l (k+j)).length; rw[hml]; simp only[be]; omega)|(show(0:Int)<=_/\_<=(((mid l (k+j)).take _).length:Int); rw[bL,hml]; simp only[be]; omega)) ?_)
     have htk:(mid l (k+j)).take ((vF l (k+j)).length:Int).toNat=vO l:=by
      rw[be]; unfold mid; rw[List.take_left,hj']; rfl
     have hcl:((vF l (k+j)).length:Int).toNat=(vO l).length:=by rw[be,hj']; rfl
     refine gG.one (c:=0) (j:=0) (o:=.row 40 3 (.elems (vO l)) (List.replicate ((mid l (k+j)).length-((vF l (k+j)).length:Int).toNat) zeroV)) (t:=.oG 0 0 (vO l).length) ?_ (Lm _ _ _) (Gt _ _) (fun _=>rfl) (.inl rfl) rfl (.eq ?_) (.inr ⟨_,rfl,rfl⟩)
     ·rw[<- htk]; rfl
     ·rw[<- hcl]; rfl
   ·conv=>whnf
    refine .mk (by simp only[okI] at *; omega) ?_;refine⟨k+1,⟨by omega,by omega,fun i h5 h6=>?_⟩,by omega,⟨⟨_,rfl,rfl⟩,trivial⟩,?_,rfl⟩
    ·by_cases e:i=k
     ·subst e; rw[e1] at h4; simpa using h4
     ·exact hne i h5 (by omega)
    ·repeat' (first|exact trivial|exact⟨_,rfl,rfl⟩|constructor)
  ·conv=>whnf
   have hk':l.length<=k:=by simpa using h3
   have hc:vO l=l:=by
    rw[vO,Lr (bO _) (fun i h3 h4=>hne i h3 (by omega)),cB]
   exact gG.one (c:=0) (j:=0) (o:=bT l) (t:=.own 0) rfl rfl rfl (fun _=>rfl) (.inl rfl) rfl (.eq rfl) (.inl ⟨hc,rfl,rfl⟩)
theorem S.Y3:aj Tryz.prog 128 [.raw (.lit (.int .u64 0))] (.int 0):=by
 refine aj.of Bd.wJ (by simp) rfl rfl ?_;refine Fork.mk (fun q=>absurd (q.symm.trans ((rfl:decide ((4294967296:Int)<=0)=false))).symm aM) (fun _=>?_);refine Fork.mk (fun q=>absurd (q.symm.trans ((rfl:decide ((65536:Int)<=0)=false))).symm aM) (fun _=>?_);refine Fork.mk (fun q=>absurd (q.symm.trans ((rfl:decide ((256:Int)<=0)=false))).symm aM) (fun _=>?_);refine .mk (by omega) ?_;repeat(refine VC.mk (by constructor<;>decide) ?_)
 exact ak.int (by decide)
theorem S.bitsLen:aj Tryz.prog 92 [.raw (.lit (.int .u64 0))] (.int 0):=by
 refine aj.of Bd.zB (by simp) rfl rfl ?_;refine Fork.mk (fun q=>absurd (q.symm.trans ((rfl:false=false))).symm aM) (fun _=>?_);refine ah.pure (S.Y3) rfl ?_;exact ak.int rfl
theorem S.VF(n:Nat):aO Tryz.prog 119 (V.aQ [.own 0,.int 0,.int 0,.fn 58 []]) (h1 []).au n (fun t hp=>t= .bU []/\hp=(h1 []).au):=by
 refine og.of (nx:=1) (h0:=h1 []) Bd.dI (by simp) ⟨_,_,rfl,rfl⟩ rfl rfl ?_;refine .mk (by simp only[okI] at *; omega) ?_;refine aF.times 1 rfl ?_;refine Fork.mk (fun q=>absurd (q.symm.trans ((rfl:decide ((0:Int)+1<0)=false))).symm aM) (fun _=>?_);exact gG.one (c:=0) (j:=0) (o:=bT []) (t:=.bU []) rfl rfl rfl (fun _=>rfl) (.inl rfl) trivial (.eq rfl) ⟨rfl,rfl⟩
theorem S.ai8(n:Nat):aO Tryz.prog 91 (V.aQ [.own 0,.int 0,.int 0,.int 0,.fn 58 []]) (h1 []).au n (fun t hp=>t= .bU []/\hp=(h1 []).au):=by
 refine og.of (nx:=1) (h0:=h1 []) Bd.iw (by simp) ⟨_,_,rfl,rfl⟩ rfl rfl ?_;refine aF.times 1 rfl ?_;refine .mk (by simp only[okI] at *; omega) ?_;refine Fork.mk (fun _=>?_) (fun q=>absurd (q.symm.trans ((rfl:decide ((0:Int)-0<=12)=true))) aM);refine ah.heap (S.VF _) (fun t hp ⟨e1,e2⟩=>⟨.bU [],h1 [],e1,e2,?_⟩);exact gG.one (c:=0) (j:=0) (o:=bT []) (t:=.bU []) rfl rfl rfl (fun _=>rfl) (.inl rfl) trivial (.eq rfl) ⟨rfl,rfl⟩
theorem S.aeb(n:Nat):aO Tryz.prog 57 (V.aQ [.own 0,.fn 58 []]) (h1 []).au n (fun t hp=>t= .bU []/\hp=(h1 []).au):=by
 refine og.of (nx:=1) (h0:=h1 []) Bd.dD (by simp) ⟨_,_,rfl,rfl⟩ rfl rfl ?_;refine .mk (by simp only[bw]; omega) ?_;refine ah.pure (S.bitsLen) rfl ?_;refine ah.heap (S.ai8 _) (fun t hp ⟨e1,e2⟩=>⟨.bU [],h1 [],e1,e2,?_⟩);exact gG.one (c:=0) (j:=0) (o:=bT []) (t:=.bU []) rfl rfl rfl (fun _=>rfl) (.inl rfl) trivial (.eq rfl) ⟨rfl,rfl⟩
theorem Y4: ∀ a b:List Int,cmpL b a= -cmpL a b:=by
 intro a;induction a with
 |nil=>intro b; cases b<;>rfl
 |cons x a ih =>
  intro b;cases b with
  |nil=>rfl
  |cons y b =>
   simp only[cmpL];by_cases h1:x<y
   ·have h2: ¬ y<x:=by omega
    simp[h1,h2]
   ·by_cases h2:y<x
    ·simp[h1,h2]
    ·simp[h1,h2,ih]
theorem pI(a b:Elem):iR b a= -iR a b:=by
 simp only[iR];by_cases h1:a.value<b.value
 ·have h2: ¬ b.value<a.value:=by omega
  simp[h1,h2]
 ·by_cases h2:b.value<a.value
  ·simp[h1,h2]
  ·simp[h1,h2,Y4 a.counts b.counts]
theorem VG: ∀ {a b c:List Int},cmpL a b<0->cmpL b c<0->cmpL a c<0:=by
 intro a;induction a with
 |nil =>
  intro b c h1 h2;cases b with
  |nil=>simp[cmpL] at h1
  |cons y b=>cases c with
   |nil=>simp[cmpL] at h2
   |cons z c=>simp[cmpL]
 |cons x a ih =>
  intro b c h1 h2;cases b with
  |nil=>simp[cmpL] at h1
  |cons y b=>cases c with
   |nil=>simp[cmpL] at h2
   |cons z c =>
    simp only[cmpL] at h1 h2 ⊢;by_cases a1:x<y
    ·by_cases a2:y<z
     ·rw[ba (by omega)]; omega
     ·by_cases a3:z<y
      ·simp[a2,a3] at h2
      ·rw[ba (by omega)]; omega
    ·by_cases a4:y<x
     ·simp[a1,a4] at h1
     ·simp only[a1,a4,cP] at h1;have e:x=y:=by omega
      subst e;by_cases a2:x<z
      ·simp[a2]
      ·by_cases a3:z<x
       ·simp[a2,a3] at h2
       ·simp only[a2,a3,cP] at h2 ⊢;exact ih h1 h2
theorem yg{a b c:Elem}(h1:iR a b<0)(h2:iR b c<0):iR a c<0:=by
 simp only[iR] at h1 h2 ⊢;by_cases a1:a.value<b.value
 ·by_cases a2:b.value<c.value
  ·rw[ba (by omega)]; omega
  ·by_cases a3:c.value<b.value
   ·simp[a2,a3] at h2
   ·rw[ba (by omega)]; omega
 ·by_cases a4:b.value<a.value
  ·simp[a1,a4] at h1
  ·simp only[a1,a4,cP] at h1;by_cases a2:b.value<c.value
   ·rw[ba (by omega)]; omega
   ·by_cases a3:c.value<b.value
    ·simp[a2,a3] at h2
    ·simp only[a2,a3,cP] at h2;rw[av (by omega),av (by omega)];exact VG h1 h2
theorem ER{a b c:Elem}(h1: ¬ iR b a<0)(h2: ¬ iR c b<0): ¬ iR c a<0:=by
 rw[pI a b] at h1;rw[pI b c] at h2;rw[pI a c];by_cases e1:iR a b=0
 ·rw[lF] at e1; subst e1; exact h2
 ·by_cases e2:iR b c=0
  ·rw[lF] at e2; subst e2; exact h1
  ·have:=yg (a:=a) (b:=b) (c:=c) (by omega) (by omega);omega
def GI(l:List Elem):Prop:=l.Pairwise fun a b=> ¬ iR b a<0
def VH(e:Elem):List Elem->List Elem
 |[]=>[e]
 |x::r=>if iR x e<0 then x::VH e r else e::x::r
def qI(l:List Elem):List Elem:=l.foldr VH []
theorem OX(e:Elem): ∀ l,(VH e l).Perm (e::l):=by
 intro l;induction l with
 |nil=>exact .refl _
 |cons x r ih =>
  simp only[VH]; split
  ·exact((ih.cons x).trans (.swap e x r))
  ·exact .refl _
theorem yh: ∀ l,(qI l).Perm l:=by
 intro l;induction l with
 |nil=>exact .refl _
 |cons x r ih=>exact(OX x _).trans (ih.cons x)
theorem abd(e:Elem): ∀ l,GI l->GI (VH e l):=by
 intro l;induction l with
 |nil=>intro _; simp[GI,VH]
 |cons x r ih =>
  intro h;have h':=h;simp only[GI,dT] at h;simp only[VH];split
  ·rename_i hlt;simp only[GI,dT];refine⟨fun y hy=>?_,ih h.2⟩;rcases bm.1 ((OX e r).mem_iff.1 hy) with rfl|hy
   ·rw[pI]; omega
   ·exact h.1 y hy
  ·rename_i hge;simp only[GI,dT];refine⟨fun y hy=>?_,h⟩;rcases bm.1 hy with rfl|hy
   ·exact hge
   ·exact ER hge (h.1 y hy)
theorem Ec: ∀ l,GI (qI l):=by
 intro l;induction l with
 |nil=>simp[GI,qI]
 |cons x r ih=>exact abd x _ ih
theorem VI: ∀ {a b:List Elem},a.Perm b->GI a->GI b->a=b:=by
 intro a;induction a with
 |nil=>intro b hp _ _; exact hp.nil_eq
 |cons x a ih =>
  intro b hp ha hb;cases b with
  |nil=>exact absurd hp.symm (by simp)
  |cons y b =>
   have h1:=ha; have h2:=hb;simp only[GI,dT] at h1 h2;have hxy:x=y:=by
    by_cases e:x=y
    ·exact e
    ·have hx:x∈b:=by
      rcases bm.1 (hp.mem_iff.1 (by simp:x∈x::a)) with h|h
      ·exact absurd h e
      ·exact h
     have hy:y∈a:=by
      rcases bm.1 (hp.mem_iff.2 (by simp:y∈y::b)) with h|h
      ·exact absurd h.symm e
      ·exact h
     have g1:=h1.1 y hy;have g2:=h2.1 x hx;rw[pI] at g1
     have:iR x y=0:=by omega
     exact lF.1 this
   subst hxy;rw[ih (List.Perm.cons_inv hp) h1.2 h2.2]
def ES:T->Elem
 | .agg [.lit (.int _ v),.sl _ _ l]=>⟨v,l.map zC⟩
 |_=>default
theorem Ko(e:Elem):ES (fG e)=e:=by
 obtain⟨v,c⟩:=e;simp only[fG,ES]
 congr 1
 rw[cp];conv=>rhs; rw[<- List.map_id c]
 exact cK fun x _=>rfl
theorem S.ai9{x y:Elem}(hx:x.counts.length<2^40)(hy:y.counts.length<2^40):yj Tryz.prog 58 [fG x,fG y] (.int (iR x y)):=S.iW x y hx hy
theorem abe(l:List Elem):(h1 l).au=upd no 0 (some ⟨40,3,l.map fG⟩):=by
 show Hz.au ((0,some (bT l))::[])=_;rw[bK];simp[bT,OV.ay,Rw.aQ,V.aQ]; rfl
theorem agA: ∀ w,(isAgg 40).run Tryz.prog w= .ok true w:=fun w=>Bc (k:=3) (by kernel_rfl)
theorem ahX: ∀ w,(Go.sizeOf 40).run Tryz.prog w= .ok 2 w:=fun w=>jc (k:=3) (by kernel_rfl)
theorem S.SortFunc(l:List Elem)(n:Nat)(hl:l.length<2^30)(hs:eG l) :
  aO Tryz.prog 57 (V.aQ [.own 0,.fn 58 []]) (h1 l).au n (fun t hp=>t= .bU []/\hp=(h1 (qI l)).au):=by
 by_cases hne:l=[]
 ·subst hne;exact S.aeb n
 ·have hx: ∀ t∈l.map fG,∃ e∈l,t=fG e:=fun t ht=>by obtain⟨e,he,rfl⟩:=bA.1 ht; exact⟨e,he,rfl⟩
  have H:=aO.sort (n:=n) Tryz.laySort 2 (by decide) agA ahX (by exact Bd.dD.cl) (g:=58) (by decide) (by exact Bd.iW.cl) (l:=l.map fG) (by simpa using hne)
   (fun t ht=>by obtain⟨e,_,rfl⟩:=hx t ht; rfl) (FD l) (by simp; omega) (fun x y=>iR (ES x) (ES y))
   (fun t ht=>by rw[lF.2 rfl]; decide)
   (fun x _ y _ z _ h1 h2=>yg h1 h2)
   (fun x _ y _ z _ h1 h2=>ER h2 h1)
   (fun x hx1 y hy1=>by
    obtain⟨a,ha,rfl⟩:=hx x hx1;obtain⟨b,hb,rfl⟩:=hx y hy1
    simp only[Ko]; exact S.ai9 (hs a ha) (hs b hb))
   (by decide) ⟨(qI l).map fG,(yh l).map fG,by
    rw[List.pairwise_map]; simp only[Ko]; exact Ec l⟩ (h:=(h1 l).au) (i:=0) (ty:=40) (by rw[abe]; rfl)
  refine aO.mono H ?_;rintro t hp ⟨rfl,l',hp',hpw,rfl⟩;refine⟨rfl,?_⟩;have hl':l'=(l'.map ES).map fG:=by
   rw[cp];conv=>lhs; rw[<- List.map_id l']
   refine cK fun t ht=>?_
   obtain⟨e,_,rfl⟩:=hx t (hp'.mem_iff.1 ht);simp[Ko]
  have hperm:(l'.map ES).Perm l:=by
   have:=hp'.map ES;rw[cp] at this;have e:l.map (ES ∘ fG)=l:=by
    conv=>rhs; rw[<- List.map_id l]
    exact cK fun e _=>Ko e
   rw[e] at this; exact this
  have hsrt:GI (l'.map ES):=by
   unfold GI; rw[List.pairwise_map]; exact hpw
  have heq:l'.map ES=qI l:=VI (hperm.trans (yh l).symm) hsrt (Ec l);rw[abe,abe];rw[hl',heq];funext j;simp only[upd]; split<;>rfl
def vM(l:List Elem):List Elem:=vO (qI l)
theorem Iz(l:List Elem):(qI l).length=l.length:=(yh l).length_eq
theorem Sv{l:List Elem}(h:eG l):eG (qI l):=fun e he=>h e ((yh l).mem_iff.1 he)
theorem S.uM(l:List Elem)(n:Nat)(hl:l.length<2^30)(hs:eG l) :
  aO Tryz.prog 24 (V.aQ [.own 0]) (h1 l).au n
   (fun t hp=>(t= .own 0/\hp=(h1 (vM l)).au)\/(∃ m,t= .oG 0 0 (vM l).length/\hp=Hz.au [(0,some (.row 40 3 (.elems (vM l)) (List.replicate m zeroV)))])):=by
 refine og.of (nx:=1) Bd.uM (by simp) ⟨_,_,.inl ⟨rfl,rfl⟩⟩ rfl rfl ?_;refine ah.heap (S.SortFunc l _ hl hs) ?_;rintro t hp ⟨rfl,rfl⟩;refine⟨.bU [],h1 (qI l),rfl,rfl,?_⟩;refine ah.heap (S.Sr (qI l) _ (by rw[Iz]; exact hl) (Sv hs)) ?_;rintro t hp (⟨hc,rfl,rfl⟩|⟨m,rfl,rfl⟩)
 ·refine⟨.own 0,h1 (qI l),rfl,rfl,?_⟩;refine gG.one (c:=0) (j:=0) (o:=bT (qI l)) (t:=.own 0) rfl rfl rfl (fun _=>rfl) (.inl rfl) rfl (.eq rfl) (.inl ⟨rfl,?_⟩);rw[vM,hc]
 ·refine⟨.oG 0 0 (vO (qI l)).length,[(0,some (.row 40 3 (.elems (vO (qI l))) (List.replicate m zeroV)))],rfl,rfl,?_⟩;exact gG.one (c:=0) (j:=0) (o:=.row 40 3 (.elems (vO (qI l))) (List.replicate m zeroV)) (t:=.oG 0 0 (vO (qI l)).length) rfl (Lm _ _ _) (Gt _ _) (fun _=>rfl) (.inl rfl) rfl (.eq rfl) (.inr ⟨m,rfl,rfl⟩)
def yt(l:List Elem)(x:Elem):Bool:= !(l.any (CW x))
def cO(l:List Elem):List Elem:=vM (l.filter (yt l))
theorem Sz{l:List Elem}{p:Elem->Bool}{i:Nat}(h:i<l.length):(l.take (i+1)).filter p=(l.take i).filter p++(if p (l.getD i default)=true then [l.getD i default] else []):=by
 rw[cJ,List.filter_append]
 congr 1
 simp only[bE h,Option.toList_some,ag,dt,fW,List.filter_nil]
theorem ak.aaO{h:Hz}{j m:Nat}{l:List Elem}(q:h.get j=some (.row 40 3 (.elems l) (List.replicate m zeroV))):ak (.row 3 false (.elems l)) (.oG j 0 l.length) h:=⟨by
 show T.sub (fun _=>True) h.au (.sl 3 false (l.map fG)) (.oG j 0 l.length);simp only[T.sub];refine⟨trivial,trivial,FD l,by decide,40,l.map fG++V.aQ (List.replicate m zeroV),?_,by simp,by simp⟩
 exact aP q⟩
theorem S.lI(l:List Elem)(f:Bool)(hl:l.length<2^29)(hs:eG l):aj Tryz.prog 107 [.row 3 f (.elems l)] (.row 3 false (.elems (cO l))):=by
 refine aj.of Bd.lI (by simp) rfl rfl ?_;refine aF.nil 3 40 3 (by rfl) rfl rfl rfl ?_;refine aF.objs 1 [0,8,9] (fun i:Nat=>[(10,.int i),(3,.own 0)]) (fun i=>[(0,bT ((l.take i).filter (yt l)))]) (fun i=>i<=l.length) (fun i=>l.length-i) 0 [5] rfl (by decide) (fun _=>rfl) (ap _) ?_ ?_ ?_
 ·exact(sR rfl)
 ·exact⟨gK rfl rfl,trivial⟩
 refine⟨(sR rfl),rfl,?_⟩;rintro i hi;have hfl:((l.take i).filter (yt l)).length<=i:=by
  have:=fX (yt l) (l.take i);simp at this; omega
 refine⟨fun h3=>?_,fun h3=>?_⟩
 ·have hi':i<l.length:=by simpa using h3
  have hstep:=Sz (p:=yt l) hi';refine .mk (by simp only[Rw.rng] at *; omega) ?_;refine ah.pure (S.Oa l (l.getD i default) false f (by omega) hs (hs.get i)) rfl ?_;refine⟨fun h4=>?_,fun h4=>?_⟩
  ·conv=>whnf
   refine ah.pure (S.kQ (l.getD i default) (l.any (CW (l.getD i default))) (hs.get i)) rfl ?_;repeat(refine VC.mk (by first|(show(((l.take i).filter (yt l)).length+(0+1))*32<=140737488355328/\((l.take i).filter (yt l)).length+(0+1)<=1152921504606846976; omega)|(simp only[okI] at *; omega)) ?_)
   refine⟨i+1,[25],by omega,by omega,(sR rfl),(sR rfl),⟨rfl,nofun,rfl,rfl,rfl,_,rfl,rfl,rfl,dH.of_eq ?_⟩,trivial⟩;rw[hstep,ba (show yt l (l.getD i default)=true from h4)];show List.map fG _++[]=List.map fG _++[fG _];simp
  ·conv=>whnf
   refine .mk (by simp only[okI] at *; omega) ?_;refine⟨i+1,[0],by omega,by omega,(sR rfl),(sR rfl),⟨rfl,nofun,rfl,rfl,rfl,_,rfl,rfl,rfl,dH.of_eq ?_⟩,trivial⟩;rw[hstep,av (by rw[show yt l (l.getD i default)=false from h4]; decide),cT]
 ·have hi':l.length<=i:=by simpa using h3
  have hA:l.take i=l:=bk hi';rw[hA] at hfl ⊢;refine ah.heap (S.uM (l.filter (yt l)) _ (by omega) (fun e he=>hs e (eA.1 he).1)) ?_;rintro t hp (⟨rfl,rfl⟩|⟨m,rfl,rfl⟩)
  ·refine⟨.own 0,h1 _,rfl,rfl,?_⟩;exact ak.agu rfl
  ·refine⟨.oG 0 0 _,[(0,some _)],rfl,rfl,?_⟩;exact ak.aaO rfl
theorem abf: ∀ {a b:List Int},qJ a b=true->cmpL a b<=0:=by
 intro a;induction a with
 |nil=>intro b h; cases b<;>simp[qJ,cmpL] at *
 |cons x a ih =>
  intro b h;cases b with
  |nil=>simp[qJ] at h
  |cons y b =>
   simp only[qJ,aD,ab] at h;simp only[cmpL];by_cases h1:x<y
   ·simp[h1]
   ·have h2: ¬ y<x:=by omega
    simp only[h1,h2,cP]; exact ih h.2
theorem Sj{a b:Elem}(h:uP a b=true):iR a b<=0:=by
 simp only[uP,aD,bo] at h;simp only[iR];rw[av (by omega),av (by omega)];exact abf h.2
theorem Y5: ∀ a:List Int,qJ a a=true:=by
 intro a;induction a with
 |nil=>rfl
 |cons x a ih=>simp[qJ,ih]
theorem OY(a:Elem):uP a a=true:=by simp[uP,Y5]
theorem VJ: ∀ {a b c:List Int},qJ a b=true->qJ b c=true->qJ a c=true:=by
 intro a;induction a with
 |nil=>intro b c h1 h2; cases b<;>cases c<;>simp[qJ] at *
 |cons x a ih =>
  intro b c h1 h2;cases b with
  |nil=>simp[qJ] at h1
  |cons y b=>cases c with
   |nil=>simp[qJ] at h2
   |cons z c =>
    simp only[qJ,aD,ab] at *;exact⟨by omega,ih h1.2 h2.2⟩
theorem Lj{a b c:Elem}(h1:uP a b=true)(h2:uP b c=true):uP a c=true:=by
 simp only[uP,aD,bo] at *;exact⟨by omega,VJ h1.2 h2.2⟩
theorem zU{x y:Elem}:CW x y=true↔uP y x=true/\y≠x:=by
 simp only[CW,aD,bne_iff_ne,ne_eq,lF]
theorem Qj{x y:Elem}(h:CW x y=true):iR y x<0:=by
 rw[zU] at h;have h1:=Sj h.1;have h2:iR y x≠0:=fun e=>h.2 (lF.1 e)
 omega
def SS(l:List Elem):Prop:=l.Pairwise fun a b=>iR a b<0
theorem D8: ∀ {a b:List Elem},SS a->SS b->(∀ x,x∈a↔x∈b)->a=b:=by
 intro a;induction a with
 |nil =>
  intro b _ _ h;cases b with
  |nil=>rfl
  |cons y b=>exact absurd ((h y).2 (by simp)) (by simp)
 |cons x a ih =>
  intro b ha hb h;cases b with
  |nil=>exact absurd ((h x).1 (by simp)) (by simp)
  |cons y b =>
   simp only[SS,dT] at ha hb;have hself: ∀ z:Elem,¬ iR z z<0:=fun z=>by rw[lF.2 rfl]; decide
   have hxy:x=y:=by
    rcases bm.1 ((h x).1 (by simp)) with e|hx
    ·exact e
    ·rcases bm.1 ((h y).2 (by simp)) with e|hy
     ·exact e.symm
     ·exact absurd (yg (ha.1 y hy) (hb.1 x hx)) (hself x)
   subst hxy;rw[ih ha.2 hb.2 fun z=>?_];constructor
   ·intro hz;rcases bm.1 ((h z).1 (by simp[hz])) with e|h'
    ·subst e; exact absurd (ha.1 z hz) (hself z)
    ·exact h'
   ·intro hz;rcases bm.1 ((h z).2 (by simp[hz])) with e|h'
    ·subst e; exact absurd (hb.1 z hz) (hself z)
    ·exact h'
theorem OZ{l:List Elem}(hs:GI l): ∀ n,n<=l.length->SS (vF l n)/\(∀ x,x∈vF l n↔x∈l.take n)/\(∀ x∈vF l n,n<l.length-> ¬ iR (l.getD n default) x<0):=by
 intro n;induction n with
 |zero=>intro _; exact⟨by simp[SS,vF],by simp[vF],by simp[vF]⟩
 |succ n ih =>
  intro hn;obtain⟨h1,h2,h3⟩:=ih (by omega);have hnl:n<l.length:=by omega
  have hmono: ∀ i j,i<=j->j<l.length-> ¬ iR (l.getD j default) (l.getD i default)<0:=by
   intro i j hij hj;by_cases e:i=j
   ·subst e; rw[lF.2 rfl]; decide
   ·have:=fY.1 hs i j (by omega) hj (by omega);simpa [hj,show i<l.length by omega] using this
  have htake: ∀ x,x∈l.take n-> ∃ i,i<n/\l.getD i default=x:=by
   intro x hx;rw[eD] at hx;obtain⟨i,hi,e⟩:=hx;exact⟨i,by omega,by rw[<- e]; simp[show i<l.length by omega]⟩
  have hlast:l.take (n+1)=l.take n++[l.getD n default]:=by
   rw[cJ]; simp[hnl]
  simp only[vF];split
  ·rename_i hc;refine⟨?_,?_,?_⟩
   ·simp only[SS,ek];refine⟨h1,by simp,fun x hx y hy=>?_⟩;rw[bt] at hy; subst hy;have hge:=h3 x hx hnl;rw[pI] at hge;have hne:iR x (l.getD n default)≠0:=by
     intro e;rw[lF] at e;rcases hc with hc|hc
     ·subst hc; simp[vF] at hx
     ·obtain⟨i,hi,hix⟩:=htake x ((h2 x).1 hx);have g1:=hmono i (n-1) (by omega) (by omega);have g2:=hmono (n-1) n (by omega) hnl;rw[hix,e] at g1;rw[pI] at g1
      have:iR (l.getD n default) (l.getD (n-1) default)=0:=by omega
      exact hc (lF.1 this)
    omega
   ·intro x;rw[hlast];simp only[cN,h2]
   ·intro x hx hn1;rcases cN.1 hx with hx|hx
    ·obtain⟨i,hi,hix⟩:=htake x ((h2 x).1 hx);rw[<- hix]; exact hmono i (n+1) (by omega) hn1
    ·rw[bt] at hx; subst hx;exact hmono n (n+1) (by omega) hn1
  ·rename_i hc;have hc':n≠0/\l.getD n default=l.getD (n-1) default:=by
    constructor
    ·intro e; exact hc (.inl e)
    ·by_cases e:l.getD n default=l.getD (n-1) default
     ·exact e
     ·exact absurd (.inr e) hc
   refine⟨h1,fun x=>?_,fun x hx hn1=>?_⟩
   ·rw[hlast,h2];simp only[cN,bt];constructor
    ·exact .inl
    ·rintro(h|h)
     ·exact h
     ·rw[h,hc'.2];rw[eD];exact⟨n-1,by omega,by simp[show n-1<l.length by omega]⟩
   ·obtain⟨i,hi,hix⟩:=htake x ((h2 x).1 hx);rw[<- hix]; exact hmono i (n+1) (by omega) hn1
theorem KX(l:List Elem):SS (vM l):=(OZ (Ec l) _ (bO _)).1
theorem zQ(l:List Elem)(x:Elem):x∈vM l↔x∈l:=by
 unfold vM vO;rw[(OZ (Ec l) _ (bO _)).2.1,cB];exact(yh l).mem_iff
theorem Y6{l:List Elem}{e:Elem}: ∀ i,i<=l.length->(∀ j,wI l e i<=j->j<i->0<iR (l.getD j default) e)/\(0<wI l e i-> ¬ 0<iR (l.getD (wI l e i-1) default) e):=by
 intro i;induction i with
 |zero=>intro _; exact⟨fun j _ h=>by omega,fun h=>by simp[wI] at h⟩
 |succ i ih =>
  intro hi;simp only[wI];split
  ·rename_i hc;obtain⟨h1,h2⟩:=ih (by omega);refine⟨fun j hj hji=>?_,h2⟩;by_cases e:j=i
   ·subst e; exact hc
   ·exact h1 j hj (by omega)
  ·rename_i hc;exact⟨fun j h1 h2=>by omega,fun _=>by simpa using hc⟩
theorem VK{l:List Elem}{e:Elem}(hs:SS l):SS (wF l e)/\ ∀ x,x∈wF l e↔x=e\/x∈l:=by
 obtain⟨h1,h2⟩:=Y6 (l:=l) (e:=e) l.length (bO _);have hp:=Xy (l:=l) (e:=e) l.length;have hlt: ∀ i j,i<j->j<l.length->iR (l.getD i default) (l.getD j default)<0:=by
  intro i j hij hj;have:=fY.1 hs i j (by omega) hj hij;simpa [hj,show i<l.length by omega] using this
 unfold wF;split
 ·rename_i hf;simp only[AZ,aD,ab] at hf;refine⟨hs,fun x=>⟨.inr,?_⟩⟩;rintro(rfl|h)
  ·have:=lF.1 hf.2;rw[<- this];have hlt':wI l x l.length-1<l.length:=by omega
   simp[hlt']
  ·exact h
 ·rename_i hf;generalize hpe:wI l e l.length=p at *;have hle: ∀ i,i<p->iR (l.getD i default) e<0:=by
   intro i hi;have hlast:iR (l.getD (p-1) default) e<0:=by
    have g1:=h2 (by omega);have g2:iR (l.getD (p-1) default) e≠0:=by
     intro e0;apply hf;simp only[AZ,hpe,aD,ab];exact⟨by omega,e0⟩
    omega
   by_cases e0:i=p-1
   ·subst e0; exact hlast
   ·exact yg (hlt i (p-1) (by omega) (by omega)) hlast
  have hge: ∀ j,p<=j->j<l.length->iR e (l.getD j default)<0:=by
   intro j hj hjl;have:=h1 j hj hjl;rw[pI]; omega
  refine⟨?_,fun x=>?_⟩
  ·simp only[SS,ek,dT];refine⟨hs.sublist (fg _ _),⟨fun y hy=>?_,hs.sublist (fh _ _)⟩,fun x hx y hy=>?_⟩
   ·rw[List.mem_drop_iff_getElem] at hy;obtain⟨j,hj,rfl⟩:=hy;have:=hge (p+j) (by omega) (by omega);simpa [show p+j<l.length by omega] using this
   ·rw[eD] at hx;obtain⟨i,hi,rfl⟩:=hx;have g1:=hle i (by omega);rw[show l.getD i default=l[i] by simp[show i<l.length by omega]] at g1;rcases bm.1 hy with rfl|hy
    ·exact g1
    ·rw[List.mem_drop_iff_getElem] at hy;obtain⟨j,hj,rfl⟩:=hy;have:=hlt i (p+j) (by omega) (by omega);simpa [show p+j<l.length by omega,show i<l.length by omega] using this
  ·simp only[cN,bm];constructor
   ·rintro(h|h|h)
    ·exact .inr (dj h)
    ·exact .inl h
    ·exact .inr (gD h)
   ·rintro(h|h)
    ·exact .inr (.inl h)
    ·rw[<- bx p l,cN] at h;rcases h with h|h
     ·exact .inl h
     ·exact .inr (.inr h)
theorem Fq: ∀ (l acc:List Elem),SS acc->SS (l.foldl wF acc)/\ ∀ x,x∈l.foldl wF acc↔x∈acc\/x∈l:=by
 intro l;induction l with
 |nil=>intro acc h; exact⟨h,by simp⟩
 |cons y l ih =>
  intro acc h;obtain⟨g1,g2⟩:=VK (e:=y) h;obtain⟨h1,h2⟩:=ih (wF acc y) g1;refine⟨h1,fun x=>?_⟩;simp only[dq];rw[h2,g2,bm];constructor
  ·rintro((h|h)|h)
   ·exact .inr (.inl h)
   ·exact .inl h
   ·exact .inr (.inr h)
  ·rintro(h|h|h)
   ·exact .inl (.inr h)
   ·exact .inl (.inl h)
   ·exact .inr h
theorem filter_lt{l:List Elem}{p q:Elem->Bool}(hpq: ∀ x,p x=true->q x=true){y:Elem}(hy:y∈l)(hq:q y=true)(hp:p y=false):(l.filter p).length<(l.filter q).length:=by
 induction l with
 |nil=>cases hy
 |cons x l ih =>
  have hle: ∀ l:List Elem,(l.filter p).length<=(l.filter q).length:=by
   intro l;induction l with
   |nil=>simp
   |cons z l ih =>
    simp only[fW];by_cases h1:p z=true
    ·rw[ba h1,ba (hpq z h1)]; simp; exact ih
    ·rw[av h1]; split
     ·simp; omega
     ·exact ih
  simp only[fW];rcases bm.1 hy with rfl|hy
  ·rw[av (by rw[hp]; decide),ba hq];have:=hle l;simp; omega
  ·have:=ih hy;by_cases h1:p x=true
   ·rw[ba h1,ba (hpq x h1)]; simp; exact this
   ·rw[av h1]; split
    ·simp; omega
    ·exact this
theorem Y7(l:List Elem): ∀ (n:Nat) (b:Elem),b∈l->(l.filter fun z=>decide (iR z b<0)).length<=n-> ∃ z∈l,uP z b=true/\l.any (CW z)=false:=by
 intro n;induction n with
 |zero =>
  intro b hb hn;refine⟨b,hb,OY b,?_⟩;rw[dv];intro y hy hab
  have:y∈l.filter fun z=>decide (iR z b<0):=eA.2 ⟨hy,by simpa using Qj hab⟩
  have:=List.length_pos_of_mem this;omega
 |succ n ih =>
  intro b hb hn;cases hm:l.any (CW b) with
  |false=>exact⟨b,hb,OY b,hm⟩
  |true =>
   rw[di] at hm;obtain⟨y,hy,hab⟩:=hm;have hlt:=Qj hab;have hfl:(l.filter fun z=>decide (iR z y<0)).length<(l.filter fun z=>decide (iR z b<0)).length:=by
    refine filter_lt (y:=y) (fun x hx=>?_) hy (by simpa using hlt) (by rw[lF.2 rfl]; decide);simp only[ab] at hx ⊢;exact yg hx hlt
   obtain⟨z,hz,h1,h2⟩:=ih y hy (by omega);exact⟨z,hz,Lj h1 (zU.1 hab).1,h2⟩
theorem agy(l:List Elem){b:Elem}(hb:b∈l): ∃ z∈l,uP z b=true/\l.any (CW z)=false:=Y7 l _ b hb (bO _)
theorem any_congr{a b:List Elem}{p:Elem->Bool}(h: ∀ x,x∈a↔x∈b):a.any p=b.any p:=by
 rw[cF,di,di];exact⟨fun⟨x,h1,h2⟩=>⟨x,(h x).1 h1,h2⟩,fun⟨x,h1,h2⟩=>⟨x,(h x).2 h1,h2⟩⟩
theorem sZ(l:List Elem):SS (cO l)/\ ∀ x,x∈cO l↔x∈l/\l.any (CW x)=false:=by
 refine⟨KX _,fun x=>?_⟩;rw[cO,zQ,eA];simp[yt]
theorem yu{l:List Elem}{x:Elem}(h:x∈cO l):x∈l:=(((sZ l).2 x).1 h).1
theorem FH(l:List Elem):(cO l).length<=l.length:=by
 have h1:=Gu (qI (l.filter (yt l))) (qI (l.filter (yt l))).length;have h2:=Iz (l.filter (yt l));have h3:=fX (yt l) l;show(vF _ _).length<=_;omega
end Go.Proofs.YtbdbmfccbpfeoaaGreatDoor
