/-
 A part of the proof. No condition.
-/
import Derived.Test.YtdloaandiobgdaaGreatDoorSb
import Derived.Test.YtdloaandiobgdaaGreatDoorLg
import Derived.Test.YtdloaandiobgdaaGreatDoorLe
import Derived.Test.YtdloaandiobgdaaGreatDoorSc
namespace Go.Proofs.YtdloaandiobgdaaGreatDoor
open Go.Ab Go.Proofs
set_option maxRecDepth 100000
def jL:List Int->List Int->Bool
 |[],[]=>true
 |x::a,y::b=>decide (x<=y)&&jL a b
 |_,_=>false
def pO(a b:Elem):Bool:=(a.value==b.value)&&jL a.counts b.counts
theorem lM: ∀ {a b:List Int},jL a b=true↔a.length=b.length/\ ∀ j,j<a.length->a.getD j 0<=b.getD j 0:=by
 intro a;induction a with
 |nil=>intro b; cases b<;>simp[jL]
 |cons x a ih =>
  intro b;cases b with
  |nil=>simp[jL]
  |cons y b =>
   simp only[jL,aD,aq,ih,bX];constructor
   ·rintro⟨h1,h2,h3⟩;refine⟨by omega,fun j hj=>?_⟩;cases j with
    |zero=>simpa using h1
    |succ j=>simpa using h3 j (by omega)
   ·rintro⟨h1,h2⟩;exact⟨by simpa using h2 0 (by omega),by omega,fun j hj=>by simpa using h2 (j+1) (by omega)⟩
theorem S.vw(a b:Elem)(ha:a.counts.length<2^40)(_hb:b.counts.length<2^40):ak Tryz.prog 30 [.dat (.elem a),.dat (.elem b)] (.bool (pO a b)):=by
 refine ak.of Bd.vw (by simp) rfl rfl ?_;repeat(refine VC.mk (by first|exact id|exact fun h=>⟨h,h⟩|(intro h; rw[h]; rfl)) ?_)
 refine⟨fun h1=>?_,fun h1=>?_⟩
 ·conv=>whnf
  refine ay.bool ?_;by_cases hv:a.value=b.value
  ·have:jL a.counts b.counts=false:=by
    rw[gb]; intro h; rw[lM] at h; simp[hv,h.1] at h1
   simp[pO,this]
  ·simp[pO,hv]
 ·have h2:a.value=b.value/\a.counts.length=b.counts.length:=by
   by_cases hv:a.value=b.value
   ·simp[hv] at h1; exact⟨hv,by omega⟩
   ·simp[hv] at h1
  refine aG.same [3,22,23] (fun i:Nat=>[(24,.int i)]) (fun i=>i<=a.counts.length/\ ∀ j,j<i->a.counts.getD j 0<=b.counts.getD j 0) (fun i=>a.counts.length-i) 0 rfl (by decide) rfl (fun _=>rfl) ⟨by omega,fun j hj=>by omega⟩ ⟨⟨_,rfl,rfl⟩,trivial⟩ ?_;refine⟨rfl,?_⟩;rintro i ⟨hi,hall⟩;refine⟨fun h3=>?_,fun h3=>?_⟩
  ·have hi':i<a.counts.length:=by simpa using h3
   repeat(refine VC.mk (by simp only[Rw.rng] at *; omega) ?_)
   refine⟨fun h4=>?_,fun h4=>?_⟩
   ·conv=>whnf
    refine ay.bool ?_
    have:jL a.counts b.counts=false:=by
     rw[gb]; intro h; rw[lM] at h; have:=h.2 i hi'; simp only[bN,aq] at h4; omega
    simp[pO,this]
   ·conv=>whnf
    refine .mk (by simp only[okI] at *; omega) ?_;refine⟨i+1,⟨by omega,fun j hj=>?_⟩,by omega,⟨⟨_,rfl,rfl⟩,trivial⟩,?_,rfl⟩
    ·by_cases e:j=i
     ·subst e; simp only[bN,bA] at h4; omega
     ·exact hall j (by omega)
    ·repeat' (first|exact trivial|exact⟨_,rfl,rfl⟩|constructor)
  ·conv=>whnf
   refine ay.bool ?_;have hi':a.counts.length<=i:=by simpa using h3
   simp only[pO,aD,bt];rw[cR]; simp only[iff_true];exact⟨h2.1,lM.2 ⟨h2.2,fun j hj=>hall j (by omega)⟩⟩
def Yc(a b:Int):Int:=if a<b then -1 else if b<a then 1 else 0
def cmpL:List Int->List Int->Int
 |[],[]=>0
 |[],_::_=> -1
 |_::_,[]=>1
 |x::a,y::b=>if x<y then -1 else if y<x then 1 else cmpL a b
def oJ(a b:Elem):Int:=if a.value<b.value then -1 else if b.value<a.value then 1 else cmpL a.counts b.counts
theorem dO{α:Type}{l:List α}{i:Nat}(d:α)(h:i<l.length):l.drop i=l.getD i d::l.drop (i+1):=by
 rw[eD h]; simp[h]
theorem Rz{a b:List Int}{i:Nat}(ha:i<a.length)(hb:i<b.length) :
  cmpL (a.drop i) (b.drop i)=if a.getD i 0<b.getD i 0 then -1 else if b.getD i 0<a.getD i 0 then 1 else cmpL (a.drop (i+1)) (b.drop (i+1)):=by
 rw[dO 0 ha,dO 0 hb]; rfl
theorem Jd{a b:List Int}{i:Nat}(hi:a.length<=i\/b.length<=i)(h1:i<=a.length)(h2:i<=b.length) :
  cmpL (a.drop i) (b.drop i)=if a.length<b.length then -1 else if b.length<a.length then 1 else 0:=by
 by_cases ha:a.length<=i
 ·have e:a.drop i=[]:=cJ ha;rw[e];by_cases hb:b.length<=i
  ·rw[cJ hb,bB (by omega),bB (by omega)]; rfl
  ·rw[dO 0 (by omega),bc (by omega)]; rfl
 ·have hb:b.length<=i:=by omega
  rw[cJ hb,dO 0 (by omega),bB (by omega),bc (by omega)]; rfl
theorem S.cmp_isNaN_int(a:Int):ak Tryz.prog 129 [.int a] (.bool false):=by
 refine ak.of Bd.cmp_isNaN_int (by simp) rfl rfl ?_;refine ay.bool ?_;simp
theorem S.cmp_Compare_int(a b:Int):ak Tryz.prog 96 [.int a,.int b] (.int (Yc a b)):=by
 refine ak.of Bd.cmp_Compare_int (by simp) rfl rfl ?_;refine ah.pure (S.cmp_isNaN_int a) rfl ?_;refine ah.pure (S.cmp_isNaN_int b) rfl ?_;refine Fork.mk (fun h1=>by cases h1) (fun _=>?_);refine Fork.mk (fun h1=>by cases h1) (fun _=>?_);refine⟨fun h1=>?_,fun h1=>?_⟩
 ·conv=>whnf
  exact ay.int (by simp only[aq] at h1; simp[Yc,h1])
 ·conv=>whnf
  simp only[bA] at h1;refine⟨fun h2=>?_,fun h2=>?_⟩
  ·conv=>whnf
   exact ay.int (by simp only[aq] at h2; simp[Yc,h1,h2])
  ·conv=>whnf
   exact ay.int (by simp only[bA] at h2; simp[Yc,h1,h2])
theorem S.Ol(a b:List Int)(ha:a.length<2^40)(hb:b.length<2^40):ak Tryz.prog 97 [.row 0 false (.ints a),.row 0 false (.ints b)] (.int (cmpL a b)):=by
 refine ak.of Bd.jm (by simp) rfl rfl ?_;refine aG.same [0,1,9,10] (fun i:Nat=>[(11,.int i)]) (fun i=>i<=a.length/\i<=b.length/\cmpL a b=cmpL (a.drop i) (b.drop i)) (fun i=>a.length-i) 0 rfl (by decide) rfl (fun _=>rfl) ⟨by omega,by omega,rfl⟩ ⟨⟨_,rfl,rfl⟩,trivial⟩ ?_;refine⟨rfl,?_⟩;rintro i ⟨hi,hj,he⟩;refine⟨fun h3=>?_,fun h3=>?_⟩
 ·have hi':i<a.length:=by simpa using h3
  refine .mk (by simp only[Rw.rng] at *; omega) ?_;refine⟨fun h4=>?_,fun h4=>?_⟩
  ·conv=>whnf
   have hb':b.length<=i:=by simpa using h4
   refine ay.int ?_;rw[he,Jd (.inr hb') hi hj,bB (by omega),bc (by omega)]
  ·have hb':i<b.length:=by simpa using h4
   refine .mk (by simp only[Rw.rng] at *; omega) ?_;refine ah.pure (S.cmp_Compare_int _ _) rfl ?_;rw[Rz hi' hb'] at he;conv=>whnf
   simp only[bN];refine⟨fun h5=>?_,fun h5=>?_⟩
   ·conv=>whnf
    refine ay.int ?_;rw[he];simp only[bne_iff_ne,ne_eq] at h5 ⊢;generalize a.getD i 0=x at h5 ⊢;generalize b.getD i 0=y at h5 ⊢;unfold Yc at h5 ⊢;by_cases h6:x<y
    ·simp[h6]
    ·by_cases h7:y<x
     ·simp[h6,h7]
     ·simp[h6,h7] at h5
   ·conv=>whnf
    refine .mk (by simp only[okI] at *; omega) ?_;conv=>whnf
    have h6: ¬ a.getD i 0<b.getD i 0/\ ¬ b.getD i 0<a.getD i 0:=by
     simp only[gL] at h5;generalize a.getD i 0=x at h5 ⊢;generalize b.getD i 0=y at h5 ⊢;unfold Yc at h5;by_cases h6:x<y
     ·simp[h6] at h5
     ·by_cases h7:y<x
      ·simp[h6,h7] at h5
      ·exact⟨h6,h7⟩
    refine⟨i+1,⟨by omega,by omega,by rw[he,bB h6.1,bB h6.2]⟩,by omega,⟨⟨_,rfl,rfl⟩,trivial⟩,?_,rfl⟩;repeat' (first|exact trivial|exact⟨_,rfl,rfl⟩|constructor)
 ·have hi':a.length<=i:=by simpa using h3
  refine⟨fun h4=>?_,fun h4=>?_⟩
  ·conv=>whnf
   refine ay.int ?_;rw[he,Jd (.inl hi') hi hj,bc (by simpa using h4)]
  ·conv=>whnf
   refine ay.int ?_
   have:b.length<=a.length:=by simpa using h4
   rw[he,Jd (.inl hi') hi hj,bB (by omega),bB (by omega)]
theorem S.uK(x y:Int)(f:Bool):ak Tryz.prog 95 [.row 0 f (.ints [x,y])] (.int (if x≠0 then x else y)):=by
 refine ak.of Bd.uK (by simp) rfl rfl ?_;refine aG.same [3,6,7] (fun i:Nat=>[(8,.int i)]) (fun i=>i<=2/\(0<i->x=0)/\(1<i->y=0)) (fun i=>2-i) 0 rfl (by decide) rfl (fun _=>rfl) ⟨by omega,by omega,by omega⟩ ⟨⟨_,rfl,rfl⟩,trivial⟩ ?_;refine⟨rfl,?_⟩;rintro i ⟨hi,h0,h1⟩;refine⟨fun h3=>?_,fun h3=>?_⟩
 ·have hi':i<2:=by simp at h3; omega
  refine .mk (by simp only[Rw.rng,bX,cC]; omega) ?_;refine⟨fun h4=>?_,fun h4=>?_⟩
  ·conv=>whnf
   refine ay.int ?_;simp only[bN,bne_iff_ne,ne_eq] at h4 ⊢;by_cases e:i=0
   ·subst e; simp at h4 ⊢; simp[h4]
   ·have:i=1:=by omega
    subst this; simp at h4 ⊢; simp[h0]
  ·conv=>whnf
   refine .mk (by simp only[okI] at *; omega) ?_;refine⟨i+1,⟨by omega,fun _=>?_,fun hlt=>?_⟩,by omega,⟨⟨_,rfl,rfl⟩,trivial⟩,?_,rfl⟩
   ·by_cases e:i=0
    ·subst e; simpa using h4
    ·exact h0 (by omega)
   ·have:i=1:=by omega
    subst this; simpa using h4
   ·repeat' (first|exact trivial|exact⟨_,rfl,rfl⟩|constructor)
 ·have:i=2:=by simp at h3; omega
  subst this;refine ay.int ?_;simp[h0,h1]
theorem S.iT(a b:Elem)(ha:a.counts.length<2^40)(hb:b.counts.length<2^40):ak Tryz.prog 66 [.dat (.elem a),.dat (.elem b)] (.int (oJ a b)):=by
 refine ak.of Bd.iT (by simp) rfl rfl ?_;refine ah.pure (S.cmp_Compare_int a.value b.value) rfl ?_;refine ah.pure (S.Ol a.counts b.counts ha hb) rfl ?_;refine ah.pure (S.uK _ _ true) rfl ?_;refine ay.int ?_;unfold oJ Yc;by_cases h6:a.value<b.value
 ·simp[h6]
 ·by_cases h7:b.value<a.value
  ·simp[h6,h7]
  ·simp[h6,h7]
def gI(l:List Elem):Prop:= ∀ e∈l,e.counts.length<2^40
theorem gI.get{l:List Elem}(h:gI l)(i:Nat):(l.getD i default).counts.length<2^40:=by
 rw[ab];cases e:l[i]? with
 |none=>show([]:List Int).length<2^40; decide
 |some x=>exact h x (cx e)
theorem o7{α:Type}{l:List α}{p:α->Bool}{d:α}{i:Nat}(hi:i<l.length)(h:(l.take i).any p=false):(l.take (i+1)).any p=p (l.getD i d):=by
 rw[cQ,eT,h,cz];simp[hi]
theorem lD{α:Type}{l:List α}{p:α->Bool}{d:α}{i:Nat}(hi:i<l.length)(h:p (l.getD i d)=true):l.any p=true:=by
 rw[cL];exact⟨l[i],bh hi,by simpa [hi] using h⟩
theorem S.jE(l:List Elem)(e:Elem)(f:Bool)(hl:l.length<2^40)(hs:gI l)(he:e.counts.length<2^40):ak Tryz.prog 13 [.row 3 f (.elems l),.dat (.elem e)] (.bool (l.any fun b=>pO b e)):=by
 refine ak.of Bd.jE (by simp) rfl rfl ?_;refine aG.same [3,7,8] (fun i:Nat=>[(9,.int i)]) (fun i=>i<=l.length/\(l.take i).any (fun b=>pO b e)=false) (fun i=>l.length-i) 0 rfl (by decide) rfl (fun _=>rfl) ⟨by omega,by simp⟩ ⟨⟨_,rfl,rfl⟩,trivial⟩ ?_;refine⟨rfl,?_⟩;rintro i ⟨hi,hall⟩;refine⟨fun h3=>?_,fun h3=>?_⟩
 ·have hi':i<l.length:=by simpa using h3
  refine .mk (by simp only[Rw.rng] at *; omega) ?_;refine ah.pure (S.vw _ _ (by simpa using hs.get i) he) rfl ?_;refine⟨fun h4=>?_,fun h4=>?_⟩
  ·conv=>whnf
   refine ay.bool ?_;simp only[bN] at h4;exact lD hi' h4
  ·conv=>whnf
   refine .mk (by simp only[okI] at *; omega) ?_;conv=>whnf
   simp only[bN] at h4;refine⟨i+1,⟨by omega,by rw[o7 hi' hall]; exact h4⟩,by omega,⟨⟨_,rfl,rfl⟩,trivial⟩,?_,rfl⟩;repeat' (first|exact trivial|exact⟨_,rfl,rfl⟩|constructor)
 ·conv=>whnf
  refine ay.bool ?_;have hi':l.length<=i:=by simpa using h3
  rw[bm hi'] at hall; exact hall
theorem S.wW(a b:List Int)(ha:a.length<2^40)(hb:b.length<2^40):ak Tryz.prog 67 [.row 0 false (.ints a),.row 0 false (.ints b)] (.int (cmpL a b)):=by
 refine ak.of Bd.wW (by simp) rfl rfl ?_;refine aG.same [0,1] (fun i:Nat=>[(5,.int i)]) (fun i=>i<=a.length/\i<=b.length/\cmpL a b=cmpL (a.drop i) (b.drop i)) (fun i=>a.length-i) 0 rfl (by decide) rfl (fun _=>rfl) ⟨by omega,by omega,rfl⟩ ⟨⟨_,rfl,rfl⟩,trivial⟩ ?_;refine⟨rfl,?_⟩;rintro i ⟨hi,hj,he⟩;repeat(refine VC.mk (by first|exact id|exact fun h=>⟨h,h⟩) ?_)
 refine⟨fun h3=>?_,fun h3=>?_⟩
 ·have hi':i<a.length/\i<b.length:=by
   by_cases h:i<a.length
   ·simp[h] at h3; exact⟨h,by omega⟩
   ·simp[h] at h3
  rw[Rz hi'.1 hi'.2] at he;obtain⟨hi1,hi2⟩:=hi';repeat(refine VC.mk (by simp only[Rw.rng] at *; omega) ?_)
  refine⟨fun h5=>?_,fun h5=>?_⟩
  ·conv=>whnf
   refine ay.int ?_;simp only[bN,aq] at h5;rw[he,bc h5]
  ·conv=>whnf
   repeat(refine VC.mk (by simp only[Rw.rng] at *; omega) ?_)
   simp only[bN,bA] at h5;refine⟨fun h6=>?_,fun h6=>?_⟩
   ·conv=>whnf
    refine ay.int ?_;simp only[bN,aq] at h6;rw[he,bB h5,bc h6]
   ·conv=>whnf
    refine .mk (by simp only[okI] at *; omega) ?_;conv=>whnf
    simp only[bN,bA] at h6;refine⟨i+1,⟨by omega,by omega,by rw[he,bB h5,bB h6]⟩,by omega,⟨⟨_,rfl,rfl⟩,trivial⟩,?_,rfl⟩;repeat' (first|exact trivial|exact⟨_,rfl,rfl⟩|constructor)
 ·have hi':a.length<=i\/b.length<=i:=by
   by_cases h:i<a.length
   ·simp[h] at h3; exact .inr (by omega)
   ·exact .inl (by omega)
  have hx:=Jd hi' hi hj;rw[<- he] at hx;refine⟨fun h4=>?_,fun h4=>?_⟩
  ·conv=>whnf
   refine ay.int ?_;rw[hx,bc (by simpa using h4)]
  ·conv=>whnf
   have h5: ¬ a.length<b.length:=by simpa using h4
   refine⟨fun h6=>?_,fun h6=>?_⟩
   ·conv=>whnf
    refine ay.int ?_;rw[hx,bB h5,bc (by simpa using h6)]
   ·conv=>whnf
    refine ay.int ?_;rw[hx,bB h5,bB (by simpa using h6)]
theorem S.rO(a b:Elem)(ha:a.counts.length<2^40)(hb:b.counts.length<2^40):ak Tryz.prog 36 [.dat (.elem a),.dat (.elem b)] (.int (oJ a b)):=by
 refine ak.of Bd.rO (by simp) rfl rfl ?_;refine⟨fun h1=>?_,fun h1=>?_⟩
 ·conv=>whnf
  exact ay.int (by simp only[aq] at h1; simp[oJ,h1])
 ·conv=>whnf
  simp only[bA] at h1;refine⟨fun h2=>?_,fun h2=>?_⟩
  ·conv=>whnf
   exact ay.int (by simp only[aq] at h2; simp[oJ,h1,h2])
  ·simp only[bA] at h2;refine ah.pure (S.wW a.counts b.counts ha hb) rfl ?_;exact ay.int (by simp[oJ,h1,h2])
theorem cmpL_eq: ∀ {a b:List Int},cmpL a b=0↔a=b:=by
 intro a;induction a with
 |nil=>intro b; cases b<;>simp[cmpL]
 |cons x a ih =>
  intro b;cases b with
  |nil=>simp[cmpL]
  |cons y b =>
   simp only[cmpL];split
   ·simp; omega
   ·split
    ·simp; omega
    ·rw[ih]; simp; intro _; omega
theorem qh{a b:Elem}:oJ a b=0↔a=b:=by
 obtain⟨v,c⟩:=a; obtain⟨w,d⟩:=b;simp only[oJ];split
 ·simp; omega
 ·split
  ·simp; omega
  ·rw[cmpL_eq]; simp; intro _; omega
theorem S.zA(a b:List Elem)(f g:Bool)(ha:a.length<2^40)(hb:b.length<2^40)(sa:gI a)(sb:gI b):ak Tryz.prog 19 [.row 3 f (.elems a),.row 3 g (.elems b)] (.bool (decide (a=b))):=by
 refine ak.of Bd.zA (by simp) rfl rfl ?_;refine⟨fun h1=>?_,fun h1=>?_⟩
 ·conv=>whnf
  refine ay.bool ?_;refine cB ?_;simp at h1;rintro rfl; exact h1 rfl
 ·have hlen:a.length=b.length:=by simp at h1; omega
  refine aG.same [0,1] (fun i:Nat=>[(5,.int i)]) (fun i=>i<=a.length/\a.take i=b.take i) (fun i=>a.length-i) 0 rfl (by decide) rfl (fun _=>rfl) ⟨by omega,by simp⟩ ⟨⟨_,rfl,rfl⟩,trivial⟩ ?_;refine⟨rfl,?_⟩;rintro i ⟨hi,hall⟩;refine⟨fun h3=>?_,fun h3=>?_⟩
  ·have hi':i<a.length:=by simpa using h3
   repeat(refine VC.mk (by simp only[Rw.rng] at *; omega) ?_)
   refine ah.pure (S.rO _ _ (by simpa using sa.get i) (by simpa using sb.get i)) rfl ?_;refine⟨fun h4=>?_,fun h4=>?_⟩
   ·conv=>whnf
    refine ay.bool ?_;refine cB ?_;rintro rfl;simp only[bN,bne_iff_ne,ne_eq] at h4;exact h4 (qh.2 rfl)
   ·conv=>whnf
    refine .mk (by simp only[okI] at *; omega) ?_;conv=>whnf
    simp only[bN,gL] at h4;rw[qh] at h4;refine⟨i+1,⟨by omega,?_⟩,by omega,⟨⟨_,rfl,rfl⟩,trivial⟩,?_,rfl⟩
    ·rw[cQ,cQ,hall]
     congr 1
     have hb':i<b.length:=by omega
     simp only[ab,bS hi',bS hb',eL] at h4;simp[hi',hb',h4]
    ·repeat' (first|exact trivial|exact⟨_,rfl,rfl⟩|constructor)
  ·conv=>whnf
   refine ay.bool ?_;have hi':a.length<=i:=by simpa using h3
   rw[bm hi',bm (by omega)] at hall;symm; simpa using hall
def Vk(l:List Elem):Bool:=decide (60<l.length)||l.any fun e=>decide (8<e.counts.length)
theorem S.uH(l:List Elem)(f:Bool)(hl:l.length<2^40)(_hs:gI l):ak Tryz.prog 4 [.row 3 f (.elems l)] (.bool (Vk l)):=by
 refine ak.of Bd.uH (by simp) rfl rfl ?_;refine⟨fun h1=>?_,fun h1=>?_⟩
 ·conv=>whnf
  refine ay.bool ?_
  have:60<l.length:=by simp at h1; omega
  simp[Vk,this]
 ·conv=>whnf
  have h60: ¬ 60<l.length:=by simp at h1; omega
  refine aG.same [0] (fun i:Nat=>[(3,.int i)]) (fun i=>i<=l.length/\(l.take i).any (fun e=>decide (8<e.counts.length))=false) (fun i=>l.length-i) 0 rfl (by decide) rfl (fun _=>rfl) ⟨by omega,by simp⟩ ⟨⟨_,rfl,rfl⟩,trivial⟩ ?_;refine⟨rfl,?_⟩;rintro i ⟨hi,hall⟩;refine⟨fun h3=>?_,fun h3=>?_⟩
  ·have hi':i<l.length:=by simpa using h3
   refine .mk (by simp only[Rw.rng] at *; omega) ?_;refine⟨fun h4=>?_,fun h4=>?_⟩
   ·conv=>whnf
    refine ay.bool ?_;simp only[bN] at h4;have h5:(l.any fun e=>decide (8<e.counts.length))=true:=lD (d:=default) hi' (by simp only[aq] at h4 ⊢; omega);simp[Vk,h5]
   ·conv=>whnf
    refine .mk (by simp only[okI] at *; omega) ?_;conv=>whnf
    simp only[bN] at h4;refine⟨i+1,⟨by omega,by rw[o7 (d:=default) hi' hall]; simp only[bA] at h4 ⊢; omega⟩,by omega,⟨⟨_,rfl,rfl⟩,trivial⟩,?_,rfl⟩;repeat' (first|exact trivial|exact⟨_,rfl,rfl⟩|constructor)
  ·conv=>whnf
   refine ay.bool ?_;have hi':l.length<=i:=by simpa using h3
   rw[bm hi'] at hall;simp only[Vk,hall,fL];simp only[h60,decide_false]
def Ez(n:Int):Bool:=decide (0<=n)&&decide (n<=1048576)
theorem S.kG(l:List Int)(f:Bool)(hl:l.length<2^40):ak Tryz.prog 25 [.row 0 f (.ints l)] (.bool (l.all Ez)):=by
 refine ak.of Bd.kG (by simp) rfl rfl ?_;refine aG.same [5,6] (fun i:Nat=>[(7,.int i)]) (fun i=>i<=l.length/\(l.take i).all Ez=true) (fun i=>l.length-i) 0 rfl (by decide) rfl (fun _=>rfl) ⟨by omega,by simp⟩ ⟨⟨_,rfl,rfl⟩,trivial⟩ ?_;refine⟨rfl,?_⟩;rintro i ⟨hi,hall⟩;refine⟨fun h3=>?_,fun h3=>?_⟩
 ·have hi':i<l.length:=by simpa using h3
  repeat(refine VC.mk (by first|exact id|(intro h; rw[h]; rfl)|(simp only[Rw.rng] at *; omega)) ?_)
  refine⟨fun h4=>?_,fun h4=>?_⟩
  ·conv=>whnf
   refine ay.bool ?_;simp only[bN] at h4;have h5:Ez (l.getD i 0)=false:=by
    have key: ∀ x:Int,(decide (x<0)||decide (1048576<x))=true->Ez x=false:=by
     intro x h4;unfold Ez;by_cases h0:x<0
     ·simp; omega
     ·simp[h0] at h4; simp; omega
    exact key _ h4
   rw[gb];intro h;rw[bj] at h;have:=h l[i] (bh hi');rw[show l.getD i 0=l[i] by simp[hi']] at h5;rw[this] at h5; cases h5
  ·conv=>whnf
   refine .mk (by simp only[okI] at *; omega) ?_;conv=>whnf
   simp only[bN] at h4;refine⟨i+1,⟨by omega,?_⟩,by omega,⟨⟨_,rfl,rfl⟩,trivial⟩,?_,rfl⟩
   ·have h5:Ez (l.getD i 0)=true:=by
     have key: ∀ x:Int,(decide (x<0)||decide (1048576<x))=false->Ez x=true:=by
      intro x h4;unfold Ez;by_cases h0:x<0
      ·simp[h0] at h4
      ·simp[h0] at h4; simp; omega
     exact key _ h4
    rw[cQ,en,hall];simpa [hi'] using h5
   ·repeat' (first|exact trivial|exact⟨_,rfl,rfl⟩|constructor)
 ·conv=>whnf
  refine ay.bool ?_;have hi':l.length<=i:=by simpa using h3
  rw[bm hi'] at hall; exact hall
def fH(e:Elem):Int:=if 6<e.counts.length then 0 else if e.counts.all Ez=true then e.counts.sum else 0
theorem KG: ∀ {l:List Int},l.all Ez=true->0<=l.sum/\l.sum<=l.length*1048576:=by
 intro l;induction l with
 |nil=>intro _; simp
 |cons x l ih =>
  intro h;simp only[eC,aD,Ez,aq] at h;have:=ih h.2;simp only[eJ,bX];omega
theorem Vy{l:List Int}(h:l.all Ez=true)(i:Nat):(l.take i).all Ez=true:=by
 rw[bj] at h ⊢;exact fun x hx=>h x (eQ hx)
theorem adP{l:List Int}{i:Nat}(hi:i<l.length):(l.take (i+1)).sum=(l.take i).sum+l.getD i 0:=by
 rw[cQ,List.sum_append]; simp[hi]
theorem S.oh(e:Elem)(hl:e.counts.length<2^40):ak Tryz.prog 35 [.dat (.elem e)] (.int (fH e)):=by
 refine ak.of Bd.oh (by simp) rfl rfl ?_;repeat(refine VC.mk id ?_)
 refine ah.iJ (fun _=>S.kG e.counts false hl) rfl ?_;repeat(refine VC.mk (by first|exact id|(intro h; rw[h]; rfl)) ?_)
 refine⟨fun h1=>?_,fun h1=>?_⟩
 ·conv=>whnf
  refine ay.int ?_;unfold fH;by_cases h:6<e.counts.length
  ·rw[bc h]
  ·rw[bB h,bB];have h': ¬ (6:Int)<e.counts.length:=by omega
   simp[h'] at h1;intro hh;rw[bj] at hh;obtain⟨x,hx,hx'⟩:=h1;exact absurd (hh x hx) (by simp[hx'])
 ·have h2: ¬ 6<e.counts.length/\e.counts.all Ez=true:=by
   by_cases h:(6:Int)<e.counts.length
   ·simp[h] at h1
   ·simp[h] at h1;exact⟨by omega,by rw[bj]; exact h1⟩
  refine aG.same [17,18] (fun i:Nat=>[(19,.int i),(3,.int (e.counts.take i).sum)]) (fun i=>i<=e.counts.length) (fun i=>e.counts.length-i) 0 rfl (by decide) rfl (fun _=>rfl) (by omega) ⟨⟨_,rfl,rfl⟩,⟨_,rfl,rfl⟩,trivial⟩ ?_;refine⟨rfl,?_⟩;rintro i hi;have hb:=KG (Vy h2.2 i);have hb':((e.counts.take i).length:Int)<=6:=by simp; omega
  refine⟨fun h3=>?_,fun h3=>?_⟩
  ·have hi':i<e.counts.length:=by simpa using h3
   have hs:=adP hi';have hc:=KG (Vy h2.2 (i+1));have hc':((e.counts.take (i+1)).length:Int)<=6:=by simp; omega
   repeat(refine VC.mk (by first|(simp only[okI,bN] at *; rw[<- hs]; omega)|(simp only[okI,Rw.rng] at *; omega)) ?_)
   refine⟨i+1,by omega,by omega,⟨⟨_,rfl,rfl⟩,⟨_,rfl,?_⟩,trivial⟩,?_,rfl⟩
   ·rw[hs]; simp[V.aI,vS]
   ·repeat' (first|exact trivial|exact⟨_,rfl,rfl⟩|constructor)
  ·conv=>whnf
   refine ay.int ?_;have hi':e.counts.length<=i:=by simpa using h3
   rw[bm hi'];simp[fH,h2.1,h2.2]
def EM(x y:Elem):Bool:=pO y x&&(oJ y x !=0)
theorem S.jZ(x y:Elem)(d:Bool)(hx:x.counts.length<2^40)(hy:y.counts.length<2^40):ak Tryz.prog 124 [.agg [.int x.value,.row 0 false (.ints x.counts),.bool d],.dat (.elem y)] (.bool (EM x y)):=by
 refine ak.of Bd.jZ (by simp) rfl rfl ?_;refine ah.pure (S.vw y x hy hx) rfl ?_;repeat(refine VC.mk (by first|exact id|exact fun h=>⟨h,h⟩) ?_)
 refine ah.iJ (fun _=>S.iT y x hy hx) rfl ?_;repeat(refine VC.mk id ?_)
 refine ay.bool ?_;cases h:pO y x<;>simp[EM,h]
def ag3(p:Elem->Bool)(l:List Elem):Int:=if l.any p=true then(l.findIdx p:Int) else -1
theorem Qw{p:Elem->Bool}{l:List Elem}{i:Nat}(hi:i<l.length)(h0:(l.take i).any p=false)(h1:p (l.getD i default)=true):l.findIdx p=i:=by
 rw[List.findIdx_eq hi];refine⟨by simpa [hi] using h1,fun j hj=>?_⟩;rw[cq] at h0;have:=h0 l[j] (by rw[fW]; exact⟨j,by omega,rfl⟩);simpa using this
theorem S.Ye(l:List Elem)(x:Elem)(d f:Bool)(hl:l.length<2^40)(hs:gI l)(hx:x.counts.length<2^40) :
  ak Tryz.prog 159 [.row 3 f (.elems l),.fn (124+4096) [.int x.value,.row 0 false (.ints x.counts),.bool d]] (.int (ag3 (EM x) l)):=by
 refine ak.of Bd.bZ (by simp) rfl rfl ?_;refine aG.same [0,1,6,7] (fun i:Nat=>[(8,.int i)]) (fun i=>i<=l.length/\(l.take i).any (EM x)=false) (fun i=>l.length-i) 0 rfl (by decide) rfl (fun _=>rfl) ⟨by omega,by simp⟩ ⟨⟨_,rfl,rfl⟩,trivial⟩ ?_;refine⟨rfl,?_⟩;rintro i ⟨hi,hall⟩;refine⟨fun h3=>?_,fun h3=>?_⟩
 ·have hi':i<l.length:=by simpa using h3
  refine .mk (by simp only[Rw.rng] at *; omega) ?_;refine ah.pure (S.jZ x (l.getD i default) d hx (hs.get i)) rfl ?_;refine⟨fun h4=>?_,fun h4=>?_⟩
  ·conv=>whnf
   refine ay.int ?_;rw[ag3,bc (lD hi' h4),Qw hi' hall h4]
  ·conv=>whnf
   refine .mk (by simp only[okI] at *; omega) ?_;refine⟨i+1,⟨by omega,by rw[o7 hi' hall]; exact h4⟩,by omega,⟨⟨_,rfl,rfl⟩,trivial⟩,?_,rfl⟩;repeat' (first|exact trivial|exact⟨_,rfl,rfl⟩|constructor)
 ·conv=>whnf
  refine ay.int ?_;have hi':l.length<=i:=by simpa using h3
  rw[bm hi'] at hall;rw[ag3,hall]; rfl
theorem S.Qx(l:List Elem)(x:Elem)(d f:Bool)(hl:l.length<2^40)(hs:gI l)(hx:x.counts.length<2^40) :
  ak Tryz.prog 125 [.row 3 f (.elems l),.fn (124+4096) [.int x.value,.row 0 false (.ints x.counts),.bool d]] (.bool (l.any (EM x))):=by
 refine ak.of Bd.bK (by simp) rfl rfl ?_;refine ah.pure (S.Ye l x d f hl hs hx) rfl ?_;refine ay.bool ?_;unfold ag3;cases h:l.any (EM x)
 ·simp
 ·simp
theorem S.mO(a b:Elem)(ha:a.counts.length<2^40)(hb:b.counts.length<2^40):ak Tryz.prog 86 [.dat (.elem a),.dat (.elem b)] (.bool (decide (a=b))):=by
 refine ak.of Bd.mO (by simp) rfl rfl ?_;refine ah.pure (S.iT a b ha hb) rfl ?_;refine ay.bool ?_;rw[cR]; simp only[aq,bt];exact qh.symm
theorem ay.elem{e:Elem}{n ty:Nat}{h:Hz}(q:h.get n=some (.row ty 0 (.ints e.counts) [])):ay (.dat (.elem e)) (.agg [.int e.value,.own n]) h:=⟨by
 show T.sub (fun _=>True) h.aj (jK e) (.agg [.int e.value,.own n]);simp only[jK,T.sub,T.dY,and_true];refine⟨trivial,trivial,trivial,?_,by decide,ty,?_⟩
 ·rw[iO]; intro t ht; obtain⟨x,_,rfl⟩:=ax.1 ht; rfl
 ·have:=aK q; simpa [OV.au,Rw.aS,V.aS] using this⟩
theorem S.jF(e:Elem)(d:Bool)(he:e.counts.length<2^40):ak Tryz.prog 126 [.agg [.int e.value,.row 0 false (.ints e.counts),.bool d]] (.dat (.elem e)):=by
 refine ak.of Bd.jF (by simp) rfl rfl ?_;refine .mk (by simp only[kT,Rw.len]; omega) ?_;exact ay.elem (ty:=3) rfl
theorem ah.lend{P:Program}{dr:Bool}{f:FuncId}{args args':List V}{res:V}{h:Hz}{n:Nat}{K:V->Hz->Prop}{KW:Nat->V->Hz->Prop}(S:ak P f args' res)(hs:T.dY (fun _=>True) h.aj (V.aS args') (V.aS args))(hh:res.aI.hard=true)(hr:res.free=true)(hK:K res h):ah P dr none f args h n K KW :=
 ⟨.inl (BU.lend S hs hh (fun _ e=>by cases e) ⟨res,h,rfl,rfl,fun _=>⟨rfl,V.jS res hr⟩,hK⟩)⟩
theorem Hw(l:List Elem):T.bn (l.map jK)=true:=by
 rw[iO]; intro t ht; obtain⟨x,_,rfl⟩:=ax.1 ht; rfl
theorem dB.of_eq{a b:List T}(h:a=b):dB a b:=by subst h; exact .refl _
theorem ah.alI{P:Program}{dr b:Bool}{f:FuncId}{args args':List V}{res:V}{h:Hz}{n:Nat}{K:V->Hz->Prop}{KW:Nat->V->Hz->Prop}(S:b=true->ak P f args' res)(hs:b=true->T.dY (fun _=>True) h.aj (V.aS args') (V.aS args))(hh:res.aI.hard=true)(hr:res.free=true)(hK:K res h):ah P dr (some b) f args h n K KW :=
 ⟨.inl (.inl ⟨res,fun e=>BU.lend (S e) (hs e) hh (fun _ e=>by cases e) ⟨rfl,rfl⟩,hr,hK⟩)⟩
abbrev dX(l:List Elem):OV:=.row 47 3 (.elems l) []
theorem Vx{h:Hz}{j:Nat}{l:List Elem}{Z:Nat->Prop}(hz:Z j)(q:h.get j=some (dX l)):T.sub Z h.aj (V.row 3 false (.elems l)).aI (V.own j).aI:=by
 show T.sub Z h.aj (.sl 3 false (l.map jK)) (.own j);simp only[T.sub];refine⟨trivial,hz,Hw l,by decide,47,?_⟩;have:=aK q; simpa [OV.au,Rw.aS,V.aS] using this
theorem ay.ajO{h:Hz}{j:Nat}{l:List Elem}(q:h.get j=some (dX l)):ay (.row 3 false (.elems l)) (.own j) h:=⟨Vx trivial q⟩
abbrev h1(l:List Elem):Hz:=[(0,some (dX l))]
theorem adO{l:List Elem}{n:Nat}(hn:0<n):Hz.get n (h1 l)=none:=by
 show(bif Nat.beq 0 n then some (dX l) else none)=none;rw[alJ,bB (by omega)]
def vg(out:List Elem)(x:Elem):List Elem:=if(out.any fun b=>pO b x)=true then out else out++[x]
theorem Oh{α β:Type}(f:β->α->β)(b:β){l:List α}{i:Nat}(d:α)(h:i<l.length):(l.take (i+1)).foldl f b=f ((l.take i).foldl f b) (l.getD i d):=by
 rw[cQ,eh]; simp[h]
theorem abq{l:List Elem}{e:Elem}:(vg l e).length<=l.length+1:=by
 unfold vg; split
 ·omega
 ·simp
theorem adN: ∀ (l acc:List Elem),(l.foldl vg acc).length<=acc.length+l.length:=by
 intro l;induction l with
 |nil=>intro acc; simp
 |cons x l ih=>intro acc; simp only[eB,bX]; have:=ih (vg acc x); have:=abq (l:=acc) (e:=x); omega
theorem adQ: ∀ (l acc:List Elem) (x:Elem),x∈l.foldl vg acc->x∈acc\/x∈l:=by
 intro l;induction l with
 |nil=>intro acc x h; exact .inl h
 |cons y l ih =>
  intro acc x h;simp only[eB] at h;rcases ih _ _ h with h|h
  ·unfold vg at h; split at h
   ·exact .inl h
   ·simp only[ci,br] at h;rcases h with h|h
    ·exact .inl h
    ·exact .inr (by simp[h])
  ·exact .inr (by simp[h])
theorem Oi{l:List Elem}(h:gI l)(i:Nat):gI ((l.take i).foldl vg []):=fun x hx=>by
 rcases adQ _ _ _ hx with h'|h'
 ·cases h'
 ·exact h x (eQ h')
def Yb(l:List Elem):Prop:= ∀ e∈l,e.counts.length<2^30
theorem Yb.e{l:List Elem}(h:Yb l):gI l:=fun e he=>by have:=h e he; omega
def xR(l:List Elem):Nat->List Elem
 |0=>[]
 |n+1=>if n=0\/l.getD n default≠l.getD (n-1) default then xR l n++[l.getD n default] else xR l n
theorem Ns(l:List Elem): ∀ n,(xR l n).length<=n:=by
 intro n;induction n with
 |zero=>exact ba _
 |succ n ih =>
  simp only[xR]; split
  ·simp; omega
  ·omega
theorem ag4{l:List Elem}{x:Elem}: ∀ {n},x∈xR l n->n<=l.length->x∈l:=by
 intro n;induction n with
 |zero=>intro h; cases h
 |succ n ih =>
  intro h hn;simp only[xR] at h;split at h
  ·rcases ci.1 h with h|h
   ·exact ih h (by omega)
   ·rw[br] at h; subst h;simp[show n<l.length by omega]
  ·exact ih h (by omega)
abbrev zeroV:V:=.agg [.int 0,.row 0 true .nil]
def mid(l:List Elem)(j:Nat):List Elem:=xR l j++l.drop (xR l j).length
theorem ag5{l:List Elem}{j:Nat}(h:j<=l.length):(mid l j).length=l.length:=by
 have:=Ns l j;simp[mid]; omega
theorem ZL{l:List Elem}{j i:Nat}(h:(xR l j).length<=i):(mid l j).getD i default=l.getD i default:=by
 unfold mid;rw[ab,ck h,cT,ab]
 congr 2; omega
theorem ag6{l:List Elem}{j:Nat}(hj:j<l.length)(h:j=0\/l.getD j default≠l.getD (j-1) default):(mid l j).set (xR l j).length (l.getD j default)=mid l (j+1):=by
 have hl:=Ns l j;have e:xR l (j+1)=xR l j++[l.getD j default]:=by simp only[xR]; rw[bc h]
 unfold mid;rw[e,ga _ _ (ba _),eN,dO default (show(xR l j).length<l.length by omega)];simp
theorem Vz{l:List Elem}{j:Nat}(h0:j≠0)(h:l.getD j default=l.getD (j-1) default):xR l (j+1)=xR l j:=by
 simp only[xR]; rw[bB]; intro q; rcases q with q|q
 ·exact h0 q
 ·exact q h
theorem Om{l:List Elem}{k:Nat}(hk:k<=l.length)(h: ∀ i,0<i->i<k->l.getD i default≠l.getD (i-1) default):xR l k=l.take k:=by
 induction k with
 |zero=>rfl
 |succ k ih =>
  simp only[xR];rw[bc,ih (by omega) fun i h1 h2=>h i h1 (by omega),cQ]
  ·simp[show k<l.length by omega]
  ·by_cases h0:k=0
   ·exact .inl h0
   ·exact .inr (h k (by omega) (by omega))
theorem Oj(l:List Elem)(m nx:Nat):(OV.row 47 3 (.elems l) (List.replicate m zeroV)).good nx=true:=by
 have h1:AB 3 (List.replicate m zeroV)=true:=by
  induction m with
  |zero=>rfl
  |succ m ih=>simp only[du,AB,ih,eK]; rfl
 have h2:T.Em nx (V.aS (List.replicate m zeroV))=true:=by
  clear h1;induction m with
  |zero=>rfl
  |succ m ih=>simp only[du,V.aS,T.Em,ih,eK]; rfl
 simp only[OV.good,h1,h2]; rfl
theorem I7(l:List Elem)(m:Nat):(OV.row 47 3 (.elems l) (List.replicate m zeroV)).zn=true:=by
 simp only[OV.zn];induction m with
 |zero=>rfl
 |succ m ih=>simp only[du,V.bn,ih,eK]; rfl
def xU(l:List Elem):List Elem:=xR l l.length
theorem S.VA(l:List Elem)(n:Nat)(hl:l.length<2^30)(hs:gI l) :
  aP Tryz.prog 85 (V.aS [.own 0,.fn 86 []]) (h1 l).aj n
   (fun t hp=>(xU l=l/\t= .own 0/\hp=(h1 l).aj)\/(∃ m,t= .rG 0 0 (xU l).length/\hp=Hz.aj [(0,some (.row 47 3 (.elems (xU l)) (List.replicate m zeroV)))])):=by
 refine nT.of (nx:=1) Bd.bT (by simp) ⟨_,_,.inr ⟨0,rfl,rfl⟩⟩ rfl rfl ?_;refine⟨fun h1=>?_,fun h1=>?_⟩
 ·conv=>whnf
  have hc:xU l=l:=by
   have h2:l.length<2:=by simp at h1; omega
   rw[xU,Om (ba _) (fun i h3 h4=>by omega),bx]
  exact gq.one (c:=0) (j:=0) (o:=dX l) (t:=.own 0) rfl rfl rfl (fun _=>rfl) (.inl rfl) rfl (.eq rfl) (.inl ⟨hc,rfl,rfl⟩)
 ·have h2:2<=l.length:=by simp at h1; omega
  refine aG.same [0,1] (fun i:Nat=>[(5,.int i)]) (fun i=>1<=i/\i<=l.length/\ ∀ k,0<k->k<i->l.getD k default≠l.getD (k-1) default) (fun i=>l.length-i) 1 rfl (by decide) rfl (fun _=>rfl) ⟨by omega,by omega,fun k h3 h4=>by omega⟩ ⟨⟨_,rfl,rfl⟩,trivial⟩ ?_;refine⟨rfl,?_⟩;rintro k ⟨hk0,hk,hne⟩;have e1:((k:Int)-1).toNat=k-1:=by omega
  refine⟨fun h3=>?_,fun h3=>?_⟩
  ·have hk':k<l.length:=by simpa using h3
   repeat(refine VC.mk (by simp only[okI,Rw.rng]; omega) ?_)
   refine ah.pure (S.mO _ _ (hs.get _) (hs.get _)) rfl ?_;refine⟨fun h4=>?_,fun h4=>?_⟩
   ·have heq:l.getD k default=l.getD (k-1) default:=by
     rw[e1] at h4; simpa using h4
    have hdk:xR l k=l.take k:=Om hk hne;have ajS:xR l (k+1)=l.take k:=by rw[Vz (by omega) heq,hdk]
    refine .mk (by simp only[Rw.vT]; omega) ?_;refine aG.objs 1 [0,1,6] (fun j:Nat=>[(7,.int j),(5,.int (xR l (k+j)).length)]) (fun j=>[(0,dX (mid l (k+j)))]) (fun j=>1<=j/\k+j<=l.length/\(xR l (k+j)).length+1<=k+j) (fun j=>l.length-j) 1 [0] rfl (by decide) (fun _=>rfl) ⟨by omega,by omega,?_⟩ ?_ ?_ ?_
    ·rw[ajS]; simp; omega
    ·refine⟨⟨_,rfl,.eq rfl⟩,⟨_,rfl,.eq ?_⟩,trivial⟩;rw[ajS];show T.int (((l.take k).length:Nat):Int)=T.int (k:Int);simp[Nat.min_eq_left hk]
    ·refine⟨⟨rfl,(fun _=>rfl),rfl,rfl,rfl,_,rfl,rfl,rfl,dB.of_eq ?_⟩,trivial⟩
     have:mid l (k+1)=l:=by unfold mid; rw[ajS]; simp[Nat.min_eq_left hk]
     rw[this]
    refine⟨(sR rfl),rfl,?_⟩;rintro j ⟨hj0,hj,hdl⟩;have hml:=ag5 hj;have e2:((j:Int)-1).toNat=j-1:=by omega
    have hsm:gI (mid l (k+j)):=fun x hx=>by
     unfold mid at hx;rcases ci.1 hx with hx|hx
     ·exact hs x (ag4 hx hj)
     ·exact hs x (List.mem_of_mem_drop hx)
    refine⟨fun h5=>?_,fun h5=>?_⟩
    ·have hj':k+j<l.length:=by
      have h6:j<l.length-k:=by
       have:(j:Int)<(((Rw.elems l).len-k:Nat):Int):=by simpa using h5
       have e3:(Rw.elems l).len=l.length:=rfl;rw[e3] at this;omega
      omega
     have g1:=ZL (l:=l) (j:=k+j) (i:=k+j) (by omega);have g2:=ZL (l:=l) (j:=k+j) (i:=k+(j-1)) (by omega);repeat(refine VC.mk (by first|(simp only[okI]; omega)|(show _/\_<(((l.length-k:Nat)):Int); omega)|(simp only[Rw.rng,hml,bN,e2]; omega)|(show(0:Int)<=_/\_<((mid l (k+j)).length:Int); rw[hml]; simp only[bN,e2]; omega)) ?_)
     refine ah.pure (S.mO _ _ (hsm.get _) (hsm.get _)) rfl ?_;simp only[bN,e2,g1,g2];conv=>whnf
     have e4:k+(j-1)=k+j-1:=by omega
     refine⟨fun h6=>?_,fun h6=>?_⟩
     ·have hne':l.getD (k+j) default≠l.getD (k+j-1) default:=by
       rw[e4] at h6; simpa using h6
      have hst:=ag6 hj' (.inr hne');have hd1:xR l (k+j+1)=xR l (k+j)++[l.getD (k+j) default]:=by simp only[xR]; rw[bc (.inr hne')]
      repeat(refine VC.mk (by first|(simp only[okI]; omega)|(show _/\_<(((l.length-k:Nat)):Int); omega)|(simp only[Rw.rng,hml,bN]; omega)|(show(0:Int)<=_/\_<((mid l (k+j)).length:Int); rw[hml]; simp only[bN]; omega)) ?_)
      refine⟨j+1,[0],⟨by omega,by omega,?_⟩,by omega,⟨⟨_,rfl,.eq rfl⟩,⟨_,rfl,.eq ?_⟩,trivial⟩,(sR rfl),⟨rfl,(fun _=>rfl),rfl,rfl,rfl,_,rfl,rfl,rfl,dB.of_eq ?_⟩,trivial⟩
      ·show(xR l (k+j+1)).length+1<=k+(j+1);rw[hd1]; simp; omega
      ·show T.int (((xR l (k+j+1)).length:Nat):Int)=T.int (((xR l (k+j)).length:Int)+1);rw[hd1]; simp
      ·show(dX (mid l (k+j+1))).au.l=(OV.row 47 3 (.elems ((mid l (k+j)).set (((xR l (k+j)).length:Int)).toNat ((mid l (k+j)).getD ((k:Int).toNat+(j:Int).toNat) default))) []).au.l;simp only[bN,g1,hst]
     ·have heq':l.getD (k+j) default=l.getD (k+j-1) default:=by
       rw[e4] at h6; simpa using h6
      have hd1:xR l (k+j+1)=xR l (k+j):=Vz (by omega) heq';refine .mk (by simp only[okI] at *; omega) ?_;refine⟨j+1,[0],⟨by omega,by omega,?_⟩,by omega,⟨⟨_,rfl,.eq rfl⟩,⟨_,rfl,.eq ?_⟩,trivial⟩,(sR rfl),⟨rfl,(fun _=>rfl),rfl,rfl,rfl,_,rfl,rfl,rfl,dB.of_eq ?_⟩,trivial⟩
      ·show(xR l (k+j+1)).length+1<=k+(j+1);rw[hd1]; omega
      ·show T.int (((xR l (k+j+1)).length:Nat):Int)=T.int ((xR l (k+j)).length:Int);rw[hd1]
      ·show(dX (mid l (k+j+1))).au.l=(dX (mid l (k+j))).au.l;unfold mid; rw[hd1]
    ·have hj':k+j=l.length:=by
      have h6: ¬ (j:Int)<(((Rw.elems l).len-k:Nat):Int):=by simpa using h5
      have e3:(Rw.elems l).len=l.length:=rfl;rw[e3] at h6;omega
     have aoh:(xR l (k+j)).length<=l.length:=by have:=Ns l (k+j); omega
     repeat(refine VC.mk (by first|(simp only[Rw.vT,hml]; omega)|(refine⟨?_,rfl⟩; show((xR l (k+j)).length:Int).toNat<=(mid l (k+j)).length; rw[hml,bN]; omega)|(show(0:Int)<=((xR l (k+j)).length:Int)/\((xR l (k+j)).length:Int)<=(((mid l (k+j)).take ((xR l (k+j)).length:Int).toNat).length:Int); rw[bR,hml,bN]; omega)|(show _<=(mid l (k+j)).length/\(mid l (k+j)).length=(mid l (k+j)).length; rw[hml]; simp only[bN]; omega)|(show(0:Int)<=_/\_<=(((mid l (k+j)).take _).length:Int); rw[bR,hml]; simp only[bN]; omega)) ?_)
     have htk:(mid l (k+j)).take ((xR l (k+j)).length:Int).toNat=xU l:=by
      rw[bN]; unfold mid; rw[List.take_left,hj']; rfl
     have hcl:((xR l (k+j)).length:Int).toNat=(xU l).length:=by rw[bN,hj']; rfl
     refine gq.one (c:=0) (j:=0) (o:=.row 47 3 (.elems (xU l)) (List.replicate ((mid l (k+j)).length-((xR l (k+j)).length:Int).toNat) zeroV)) (t:=.rG 0 0 (xU l).length) ?_ (Oj _ _ _) (I7 _ _) (fun _=>rfl) (.inl rfl) rfl (.eq ?_) (.inr ⟨_,rfl,rfl⟩)
     ·rw[<- htk]; rfl
     ·rw[<- hcl]; rfl
   ·conv=>whnf
    refine .mk (by simp only[okI] at *; omega) ?_;refine⟨k+1,⟨by omega,by omega,fun i h5 h6=>?_⟩,by omega,⟨⟨_,rfl,rfl⟩,trivial⟩,?_,rfl⟩
    ·by_cases e:i=k
     ·subst e; rw[e1] at h4; simpa using h4
     ·exact hne i h5 (by omega)
    ·repeat' (first|exact trivial|exact⟨_,rfl,rfl⟩|constructor)
  ·conv=>whnf
   have hk':l.length<=k:=by simpa using h3
   have hc:xU l=l:=by
    rw[xU,Om (ba _) (fun i h3 h4=>hne i h3 (by omega)),bx]
   exact gq.one (c:=0) (j:=0) (o:=dX l) (t:=.own 0) rfl rfl rfl (fun _=>rfl) (.inl rfl) rfl (.eq rfl) (.inl ⟨hc,rfl,rfl⟩)
theorem S.abr:ak Tryz.prog 156 [.raw (.lit (.int .u64 0))] (.int 0):=by
 refine ak.of Bd.qK (by simp) rfl rfl ?_;refine Fork.mk (fun q=>absurd (q.symm.trans ((rfl:decide ((4294967296:Int)<=0)=false))).symm aR) (fun _=>?_);refine Fork.mk (fun q=>absurd (q.symm.trans ((rfl:decide ((65536:Int)<=0)=false))).symm aR) (fun _=>?_);refine Fork.mk (fun q=>absurd (q.symm.trans ((rfl:decide ((256:Int)<=0)=false))).symm aR) (fun _=>?_);refine .mk (by omega) ?_;repeat(refine VC.mk (by constructor<;>decide) ?_)
 exact ay.int (by decide)
theorem S.bitsLen:ak Tryz.prog 121 [.raw (.lit (.int .u64 0))] (.int 0):=by
 refine ak.of Bd.tZ (by simp) rfl rfl ?_;refine Fork.mk (fun q=>absurd (q.symm.trans ((rfl:false=false))).symm aR) (fun _=>?_);refine ah.pure (S.abr) rfl ?_;exact ay.int rfl
theorem S.Yf(n:Nat):aP Tryz.prog 118 (V.aS [.own 0,.int 0,.int 0,.fn 66 []]) (h1 []).aj n (fun t hp=>t= .dD []/\hp=(h1 []).aj):=by
 refine nT.of (nx:=1) (h0:=h1 []) Bd.bH (by simp) ⟨_,_,rfl,rfl⟩ rfl rfl ?_;refine .mk (by simp only[okI] at *; omega) ?_;refine aG.times 1 rfl ?_;refine Fork.mk (fun q=>absurd (q.symm.trans ((rfl:decide ((0:Int)+1<0)=false))).symm aR) (fun _=>?_);exact gq.one (c:=0) (j:=0) (o:=dX []) (t:=.dD []) rfl rfl rfl (fun _=>rfl) (.inl rfl) trivial (.eq rfl) ⟨rfl,rfl⟩
theorem S.anh(n:Nat):aP Tryz.prog 120 (V.aS [.own 0,.int 0,.int 0,.int 0,.fn 66 []]) (h1 []).aj n (fun t hp=>t= .dD []/\hp=(h1 []).aj):=by
 refine nT.of (nx:=1) (h0:=h1 []) Bd.dV (by simp) ⟨_,_,rfl,rfl⟩ rfl rfl ?_;refine aG.times 1 rfl ?_;refine .mk (by simp only[okI] at *; omega) ?_;refine Fork.mk (fun _=>?_) (fun q=>absurd (q.symm.trans ((rfl:decide ((0:Int)-0<=12)=true))) aR);refine ah.heap (S.Yf _) (fun t hp ⟨e1,e2⟩=>⟨.dD [],h1 [],e1,e2,?_⟩);exact gq.one (c:=0) (j:=0) (o:=dX []) (t:=.dD []) rfl rfl rfl (fun _=>rfl) (.inl rfl) trivial (.eq rfl) ⟨rfl,rfl⟩
theorem S.ag7(n:Nat):aP Tryz.prog 84 (V.aS [.own 0,.fn 66 []]) (h1 []).aj n (fun t hp=>t= .dD []/\hp=(h1 []).aj):=by
 refine nT.of (nx:=1) (h0:=h1 []) Bd.bC (by simp) ⟨_,_,rfl,rfl⟩ rfl rfl ?_;refine .mk (by simp only[cC]; omega) ?_;refine ah.pure (S.bitsLen) rfl ?_;refine ah.heap (S.anh _) (fun t hp ⟨e1,e2⟩=>⟨.dD [],h1 [],e1,e2,?_⟩);exact gq.one (c:=0) (j:=0) (o:=dX []) (t:=.dD []) rfl rfl rfl (fun _=>rfl) (.inl rfl) trivial (.eq rfl) ⟨rfl,rfl⟩
theorem abt: ∀ a b:List Int,cmpL b a= -cmpL a b:=by
 intro a;induction a with
 |nil=>intro b; cases b<;>rfl
 |cons x a ih =>
  intro b;cases b with
  |nil=>rfl
  |cons y b =>
   simp only[cmpL];by_cases h1:x<y
   ·have h2: ¬ y<x:=by omega
    simp[h1,h2]
   ·by_cases h2:y<x
    ·simp[h1,h2]
    ·simp[h1,h2,ih]
theorem vk(a b:Elem):oJ b a= -oJ a b:=by
 simp only[oJ];by_cases h1:a.value<b.value
 ·have h2: ¬ b.value<a.value:=by omega
  simp[h1,h2]
 ·by_cases h2:b.value<a.value
  ·simp[h1,h2]
  ·simp[h1,h2,abt a.counts b.counts]
theorem Yg: ∀ {a b c:List Int},cmpL a b<0->cmpL b c<0->cmpL a c<0:=by
 intro a;induction a with
 |nil =>
  intro b c h1 h2;cases b with
  |nil=>simp[cmpL] at h1
  |cons y b=>cases c with
   |nil=>simp[cmpL] at h2
   |cons z c=>simp[cmpL]
 |cons x a ih =>
  intro b c h1 h2;cases b with
  |nil=>simp[cmpL] at h1
  |cons y b=>cases c with
   |nil=>simp[cmpL] at h2
   |cons z c =>
    simp only[cmpL] at h1 h2 ⊢;by_cases a1:x<y
    ·by_cases a2:y<z
     ·rw[bc (by omega)]; omega
     ·by_cases a3:z<y
      ·simp[a2,a3] at h2
      ·rw[bc (by omega)]; omega
    ·by_cases a4:y<x
     ·simp[a1,a4] at h1
     ·simp only[a1,a4,cW] at h1;have e:x=y:=by omega
      subst e;by_cases a2:x<z
      ·simp[a2]
      ·by_cases a3:z<x
       ·simp[a2,a3] at h2
       ·simp only[a2,a3,cW] at h2 ⊢;exact ih h1 h2
theorem Dz{a b c:Elem}(h1:oJ a b<0)(h2:oJ b c<0):oJ a c<0:=by
 simp only[oJ] at h1 h2 ⊢;by_cases a1:a.value<b.value
 ·by_cases a2:b.value<c.value
  ·rw[bc (by omega)]; omega
  ·by_cases a3:c.value<b.value
   ·simp[a2,a3] at h2
   ·rw[bc (by omega)]; omega
 ·by_cases a4:b.value<a.value
  ·simp[a1,a4] at h1
  ·simp only[a1,a4,cW] at h1;by_cases a2:b.value<c.value
   ·rw[bc (by omega)]; omega
   ·by_cases a3:c.value<b.value
    ·simp[a2,a3] at h2
    ·simp only[a2,a3,cW] at h2;rw[bB (by omega),bB (by omega)];exact Yg h1 h2
theorem Gx{a b c:Elem}(h1: ¬ oJ b a<0)(h2: ¬ oJ c b<0): ¬ oJ c a<0:=by
 rw[vk a b] at h1;rw[vk b c] at h2;rw[vk a c];by_cases e1:oJ a b=0
 ·rw[qh] at e1; subst e1; exact h2
 ·by_cases e2:oJ b c=0
  ·rw[qh] at e2; subst e2; exact h1
  ·have:=Dz (a:=a) (b:=b) (c:=c) (by omega) (by omega);omega
def Je(l:List Elem):Prop:=l.Pairwise fun a b=> ¬ oJ b a<0
def Yh(e:Elem):List Elem->List Elem
 |[]=>[e]
 |x::r=>if oJ x e<0 then x::Yh e r else e::x::r
def wo(l:List Elem):List Elem:=l.foldr Yh []
theorem RD(e:Elem): ∀ l,(Yh e l).Perm (e::l):=by
 intro l;induction l with
 |nil=>exact .refl _
 |cons x r ih =>
  simp only[Yh]; split
  ·exact((ih.cons x).trans (.swap e x r))
  ·exact .refl _
theorem zB: ∀ l,(wo l).Perm l:=by
 intro l;induction l with
 |nil=>exact .refl _
 |cons x r ih=>exact(RD x _).trans (ih.cons x)
theorem adR(e:Elem): ∀ l,Je l->Je (Yh e l):=by
 intro l;induction l with
 |nil=>intro _; simp[Je,Yh]
 |cons x r ih =>
  intro h;have h':=h;simp only[Je,dp] at h;simp only[Yh];split
  ·rename_i hlt;simp only[Je,dp];refine⟨fun y hy=>?_,ih h.2⟩;rcases bv.1 ((RD e r).mem_iff.1 hy) with rfl|hy
   ·rw[vk]; omega
   ·exact h.1 y hy
  ·rename_i hge;simp only[Je,dp];refine⟨fun y hy=>?_,h⟩;rcases bv.1 hy with rfl|hy
   ·exact hge
   ·exact Gx hge (h.1 y hy)
theorem FZ: ∀ l,Je (wo l):=by
 intro l;induction l with
 |nil=>simp[Je,wo]
 |cons x r ih=>exact adR x _ ih
theorem Yi: ∀ {a b:List Elem},a.Perm b->Je a->Je b->a=b:=by
 intro a;induction a with
 |nil=>intro b hp _ _; exact hp.nil_eq
 |cons x a ih =>
  intro b hp ha hb;cases b with
  |nil=>exact absurd hp.symm (by simp)
  |cons y b =>
   have h1:=ha; have h2:=hb;simp only[Je,dp] at h1 h2;have hxy:x=y:=by
    by_cases e:x=y
    ·exact e
    ·have hx:x∈b:=by
      rcases bv.1 (hp.mem_iff.1 (by simp:x∈x::a)) with h|h
      ·exact absurd h e
      ·exact h
     have hy:y∈a:=by
      rcases bv.1 (hp.mem_iff.2 (by simp:y∈y::b)) with h|h
      ·exact absurd h.symm e
      ·exact h
     have g1:=h1.1 y hy;have g2:=h2.1 x hx;rw[vk] at g1
     have:oJ x y=0:=by omega
     exact qh.1 this
   subst hxy;rw[ih (List.Perm.cons_inv hp) h1.2 h2.2]
def Gy:T->Elem
 | .agg [.lit (.int _ v),.sl _ _ l]=>⟨v,l.map Bo⟩
 |_=>default
theorem Nu(e:Elem):Gy (jK e)=e:=by
 obtain⟨v,c⟩:=e;simp only[jK,Gy]
 congr 1
 rw[cy];conv=>rhs; rw[<- List.map_id c]
 exact ce fun x _=>rfl
theorem S.ani{x y:Elem}(hx:x.counts.length<2^40)(hy:y.counts.length<2^40):zC Tryz.prog 66 [jK x,jK y] (.int (oJ x y)):=S.iT x y hx hy
theorem adS(l:List Elem):(h1 l).aj=upd no 0 (some ⟨47,3,l.map jK⟩):=by
 show Hz.aj ((0,some (dX l))::[])=_;rw[bI];simp[dX,OV.au,Rw.aS,V.aS]; rfl
theorem ajT: ∀ w,(isAgg 47).run Tryz.prog w= .ok true w:=fun w=>wX (k:=3) (by kernel_rfl)
theorem alK: ∀ w,(Go.sizeOf 47).run Tryz.prog w= .ok 2 w:=fun w=>jo (k:=3) (by kernel_rfl)
theorem S.SortFunc(l:List Elem)(n:Nat)(hl:l.length<2^30)(hs:gI l) :
  aP Tryz.prog 84 (V.aS [.own 0,.fn 66 []]) (h1 l).aj n (fun t hp=>t= .dD []/\hp=(h1 (wo l)).aj):=by
 by_cases hne:l=[]
 ·subst hne;exact S.ag7 n
 ·have hx: ∀ t∈l.map jK,∃ e∈l,t=jK e:=fun t ht=>by obtain⟨e,he,rfl⟩:=ax.1 ht; exact⟨e,he,rfl⟩
  have H:=aP.sort (n:=n) Tryz.laySort 2 (by decide) ajT alK (by exact Bd.bC.cl) (g:=66) (by decide) (by exact Bd.iT.cl) (l:=l.map jK) (by simpa using hne)
   (fun t ht=>by obtain⟨e,_,rfl⟩:=hx t ht; rfl) (Hw l) (by simp; omega) (fun x y=>oJ (Gy x) (Gy y))
   (fun t ht=>by rw[qh.2 rfl]; decide)
   (fun x _ y _ z _ h1 h2=>Dz h1 h2)
   (fun x _ y _ z _ h1 h2=>Gx h2 h1)
   (fun x hx1 y hy1=>by
    obtain⟨a,ha,rfl⟩:=hx x hx1;obtain⟨b,hb,rfl⟩:=hx y hy1
    simp only[Nu]; exact S.ani (hs a ha) (hs b hb))
   (by decide) ⟨(wo l).map jK,(zB l).map jK,by
    rw[List.pairwise_map]; simp only[Nu]; exact FZ l⟩ (h:=(h1 l).aj) (i:=0) (ty:=47) (by rw[adS]; rfl)
  refine aP.mono H ?_;rintro t hp ⟨rfl,l',hp',hpw,rfl⟩;refine⟨rfl,?_⟩;have hl':l'=(l'.map Gy).map jK:=by
   rw[cy];conv=>lhs; rw[<- List.map_id l']
   refine ce fun t ht=>?_
   obtain⟨e,_,rfl⟩:=hx t (hp'.mem_iff.1 ht);simp[Nu]
  have hperm:(l'.map Gy).Perm l:=by
   have:=hp'.map Gy;rw[cy] at this;have e:l.map (Gy ∘ jK)=l:=by
    conv=>rhs; rw[<- List.map_id l]
    exact ce fun e _=>Nu e
   rw[e] at this; exact this
  have hsrt:Je (l'.map Gy):=by
   unfold Je; rw[List.pairwise_map]; exact hpw
  have heq:l'.map Gy=wo l:=Yi (hperm.trans (zB l).symm) hsrt (FZ l);rw[adS,adS];rw[hl',heq];funext j;simp only[upd]; split<;>rfl
def AA(l:List Elem):List Elem:=xU (wo l)
theorem RF(l:List Elem):(wo l).length=l.length:=(zB l).length_eq
theorem VB{l:List Elem}(h:gI l):gI (wo l):=fun e he=>h e ((zB l).mem_iff.1 he)
theorem S.rH(l:List Elem)(n:Nat)(hl:l.length<2^30)(hs:gI l) :
  aP Tryz.prog 53 (V.aS [.own 0]) (h1 l).aj n
   (fun t hp=>(t= .own 0/\hp=(h1 (AA l)).aj)\/(∃ m,t= .rG 0 0 (AA l).length/\hp=Hz.aj [(0,some (.row 47 3 (.elems (AA l)) (List.replicate m zeroV)))])):=by
 refine nT.of (nx:=1) Bd.rH (by simp) ⟨_,_,.inl ⟨rfl,rfl⟩⟩ rfl rfl ?_;refine ah.heap (S.SortFunc l _ hl hs) ?_;rintro t hp ⟨rfl,rfl⟩;refine⟨.dD [],h1 (wo l),rfl,rfl,?_⟩;refine ah.heap (S.VA (wo l) _ (by rw[RF]; exact hl) (VB hs)) ?_;rintro t hp (⟨hc,rfl,rfl⟩|⟨m,rfl,rfl⟩)
 ·refine⟨.own 0,h1 (wo l),rfl,rfl,?_⟩;refine gq.one (c:=0) (j:=0) (o:=dX (wo l)) (t:=.own 0) rfl rfl rfl (fun _=>rfl) (.inl rfl) rfl (.eq rfl) (.inl ⟨rfl,?_⟩);rw[AA,hc]
 ·refine⟨.rG 0 0 (xU (wo l)).length,[(0,some (.row 47 3 (.elems (xU (wo l))) (List.replicate m zeroV)))],rfl,rfl,?_⟩;exact gq.one (c:=0) (j:=0) (o:=.row 47 3 (.elems (xU (wo l))) (List.replicate m zeroV)) (t:=.rG 0 0 (xU (wo l)).length) rfl (Oj _ _ _) (I7 _ _) (fun _=>rfl) (.inl rfl) rfl (.eq rfl) (.inr ⟨m,rfl,rfl⟩)
def zD(l:List Elem)(x:Elem):Bool:= !(l.any (EM x))
def bG(l:List Elem):List Elem:=AA (l.filter (zD l))
theorem VD{l:List Elem}{p:Elem->Bool}{i:Nat}(h:i<l.length):(l.take (i+1)).filter p=(l.take i).filter p++(if p (l.getD i default)=true then [l.getD i default] else []):=by
 rw[cQ,List.filter_append]
 congr 1
 simp only[bS h,Option.toList_some,ab,eL,fq,List.filter_nil]
theorem ay.agX{h:Hz}{j m:Nat}{l:List Elem}(q:h.get j=some (.row 47 3 (.elems l) (List.replicate m zeroV))):ay (.row 3 false (.elems l)) (.rG j 0 l.length) h:=⟨by
 show T.sub (fun _=>True) h.aj (.sl 3 false (l.map jK)) (.rG j 0 l.length);simp only[T.sub];refine⟨trivial,trivial,Hw l,by decide,47,l.map jK++V.aS (List.replicate m zeroV),?_,by simp,by simp⟩
 exact aK q⟩
theorem S.kK(l:List Elem)(f:Bool)(hl:l.length<2^29)(hs:gI l):ak Tryz.prog 89 [.row 3 f (.elems l)] (.row 3 false (.elems (bG l))):=by
 refine ak.of Bd.kK (by simp) rfl rfl ?_;refine aG.nil 3 47 3 (by rfl) rfl rfl rfl ?_;refine aG.objs 1 [0,8,9] (fun i:Nat=>[(10,.int i),(3,.own 0)]) (fun i=>[(0,dX ((l.take i).filter (zD l)))]) (fun i=>i<=l.length) (fun i=>l.length-i) 0 [5] rfl (by decide) (fun _=>rfl) (ao _) ?_ ?_ ?_
 ·exact(sR rfl)
 ·exact⟨mV rfl rfl,trivial⟩
 refine⟨(sR rfl),rfl,?_⟩;rintro i hi;have hfl:((l.take i).filter (zD l)).length<=i:=by
  have:=fw (zD l) (l.take i);simp at this; omega
 refine⟨fun h3=>?_,fun h3=>?_⟩
 ·have hi':i<l.length:=by simpa using h3
  have hstep:=VD (p:=zD l) hi';refine .mk (by simp only[Rw.rng] at *; omega) ?_;refine ah.pure (S.Qx l (l.getD i default) false f (by omega) hs (hs.get i)) rfl ?_;refine⟨fun h4=>?_,fun h4=>?_⟩
  ·conv=>whnf
   refine ah.pure (S.jF (l.getD i default) (l.any (EM (l.getD i default))) (hs.get i)) rfl ?_;repeat(refine VC.mk (by first|(show(((l.take i).filter (zD l)).length+(0+1))*32<=140737488355328/\((l.take i).filter (zD l)).length+(0+1)<=1152921504606846976; omega)|(simp only[okI] at *; omega)) ?_)
   refine⟨i+1,[25],by omega,by omega,(sR rfl),(sR rfl),⟨rfl,nofun,rfl,rfl,rfl,_,rfl,rfl,rfl,dB.of_eq ?_⟩,trivial⟩;rw[hstep,bc (show zD l (l.getD i default)=true from h4)];show List.map jK _++[]=List.map jK _++[jK _];simp
  ·conv=>whnf
   refine .mk (by simp only[okI] at *; omega) ?_;refine⟨i+1,[0],by omega,by omega,(sR rfl),(sR rfl),⟨rfl,nofun,rfl,rfl,rfl,_,rfl,rfl,rfl,dB.of_eq ?_⟩,trivial⟩;rw[hstep,bB (by rw[show zD l (l.getD i default)=false from h4]; decide),cS]
 ·have hi':l.length<=i:=by simpa using h3
  have hA:l.take i=l:=bm hi';rw[hA] at hfl ⊢;refine ah.heap (S.rH (l.filter (zD l)) _ (by omega) (fun e he=>hs e (eE.1 he).1)) ?_;rintro t hp (⟨rfl,rfl⟩|⟨m,rfl,rfl⟩)
  ·refine⟨.own 0,h1 _,rfl,rfl,?_⟩;exact ay.ajO rfl
  ·refine⟨.rG 0 0 _,[(0,some _)],rfl,rfl,?_⟩;exact ay.agX rfl
theorem adT: ∀ {a b:List Int},jL a b=true->cmpL a b<=0:=by
 intro a;induction a with
 |nil=>intro b h; cases b<;>simp[jL,cmpL] at *
 |cons x a ih =>
  intro b h;cases b with
  |nil=>simp[jL] at h
  |cons y b =>
   simp only[jL,aD,aq] at h;simp only[cmpL];by_cases h1:x<y
   ·simp[h1]
   ·have h2: ¬ y<x:=by omega
    simp only[h1,h2,cW]; exact ih h.2
theorem Vu{a b:Elem}(h:pO a b=true):oJ a b<=0:=by
 simp only[pO,aD,bt] at h;simp only[oJ];rw[bB (by omega),bB (by omega)];exact adT h.2
theorem abu: ∀ a:List Int,jL a a=true:=by
 intro a;induction a with
 |nil=>rfl
 |cons x a ih=>simp[jL,ih]
theorem Kq(a:Elem):pO a a=true:=by simp[pO,abu]
theorem Yj: ∀ {a b c:List Int},jL a b=true->jL b c=true->jL a c=true:=by
 intro a;induction a with
 |nil=>intro b c h1 h2; cases b<;>cases c<;>simp[jL] at *
 |cons x a ih =>
  intro b c h1 h2;cases b with
  |nil=>simp[jL] at h1
  |cons y b=>cases c with
   |nil=>simp[jL] at h2
   |cons z c =>
    simp only[jL,aD,aq] at *;exact⟨by omega,ih h1.2 h2.2⟩
theorem Dt{a b c:Elem}(h1:pO a b=true)(h2:pO b c=true):pO a c=true:=by
 simp only[pO,aD,bt] at *;exact⟨by omega,Yj h1.2 h2.2⟩
theorem BQ{x y:Elem}:EM x y=true↔pO y x=true/\y≠x:=by
 simp only[EM,aD,bne_iff_ne,ne_eq,qh]
theorem TF{x y:Elem}(h:EM x y=true):oJ y x<0:=by
 rw[BQ] at h;have h1:=Vu h.1;have h2:oJ y x≠0:=fun e=>h.2 (qh.1 e)
 omega
def SS(l:List Elem):Prop:=l.Pairwise fun a b=>oJ a b<0
theorem KF: ∀ {a b:List Elem},SS a->SS b->(∀ x,x∈a↔x∈b)->a=b:=by
 intro a;induction a with
 |nil =>
  intro b _ _ h;cases b with
  |nil=>rfl
  |cons y b=>exact absurd ((h y).2 (by simp)) (by simp)
 |cons x a ih =>
  intro b ha hb h;cases b with
  |nil=>exact absurd ((h x).1 (by simp)) (by simp)
  |cons y b =>
   simp only[SS,dp] at ha hb;have hself: ∀ z:Elem,¬ oJ z z<0:=fun z=>by rw[qh.2 rfl]; decide
   have hxy:x=y:=by
    rcases bv.1 ((h x).1 (by simp)) with e|hx
    ·exact e
    ·rcases bv.1 ((h y).2 (by simp)) with e|hy
     ·exact e.symm
     ·exact absurd (Dz (ha.1 y hy) (hb.1 x hx)) (hself x)
   subst hxy;rw[ih ha.2 hb.2 fun z=>?_];constructor
   ·intro hz;rcases bv.1 ((h z).1 (by simp[hz])) with e|h'
    ·subst e; exact absurd (ha.1 z hz) (hself z)
    ·exact h'
   ·intro hz;rcases bv.1 ((h z).2 (by simp[hz])) with e|h'
    ·subst e; exact absurd (hb.1 z hz) (hself z)
    ·exact h'
theorem RG{l:List Elem}(hs:Je l): ∀ n,n<=l.length->SS (xR l n)/\(∀ x,x∈xR l n↔x∈l.take n)/\(∀ x∈xR l n,n<l.length-> ¬ oJ (l.getD n default) x<0):=by
 intro n;induction n with
 |zero=>intro _; exact⟨by simp[SS,xR],by simp[xR],by simp[xR]⟩
 |succ n ih =>
  intro hn;obtain⟨h1,h2,h3⟩:=ih (by omega);have hnl:n<l.length:=by omega
  have hmono: ∀ i j,i<=j->j<l.length-> ¬ oJ (l.getD j default) (l.getD i default)<0:=by
   intro i j hij hj;by_cases e:i=j
   ·subst e; rw[qh.2 rfl]; decide
   ·have:=List.pairwise_iff_getElem.1 hs i j (by omega) hj (by omega);simpa [hj,show i<l.length by omega] using this
  have htake: ∀ x,x∈l.take n-> ∃ i,i<n/\l.getD i default=x:=by
   intro x hx;rw[fW] at hx;obtain⟨i,hi,e⟩:=hx;exact⟨i,by omega,by rw[<- e]; simp[show i<l.length by omega]⟩
  have hlast:l.take (n+1)=l.take n++[l.getD n default]:=by
   rw[cQ]; simp[hnl]
  simp only[xR];split
  ·rename_i hc;refine⟨?_,?_,?_⟩
   ·simp only[SS,fx];refine⟨h1,by simp,fun x hx y hy=>?_⟩;rw[br] at hy; subst hy;have hge:=h3 x hx hnl;rw[vk] at hge;have hne:oJ x (l.getD n default)≠0:=by
     intro e;rw[qh] at e;rcases hc with hc|hc
     ·subst hc; simp[xR] at hx
     ·obtain⟨i,hi,hix⟩:=htake x ((h2 x).1 hx);have g1:=hmono i (n-1) (by omega) (by omega);have g2:=hmono (n-1) n (by omega) hnl;rw[hix,e] at g1;rw[vk] at g1
      have:oJ (l.getD n default) (l.getD (n-1) default)=0:=by omega
      exact hc (qh.1 this)
    omega
   ·intro x;rw[hlast];simp only[ci,h2]
   ·intro x hx hn1;rcases ci.1 hx with hx|hx
    ·obtain⟨i,hi,hix⟩:=htake x ((h2 x).1 hx);rw[<- hix]; exact hmono i (n+1) (by omega) hn1
    ·rw[br] at hx; subst hx;exact hmono n (n+1) (by omega) hn1
  ·rename_i hc;have hc':n≠0/\l.getD n default=l.getD (n-1) default:=by
    constructor
    ·intro e; exact hc (.inl e)
    ·by_cases e:l.getD n default=l.getD (n-1) default
     ·exact e
     ·exact absurd (.inr e) hc
   refine⟨h1,fun x=>?_,fun x hx hn1=>?_⟩
   ·rw[hlast,h2];simp only[ci,br];constructor
    ·exact .inl
    ·rintro(h|h)
     ·exact h
     ·rw[h,hc'.2];rw[fW];exact⟨n-1,by omega,by simp[show n-1<l.length by omega]⟩
   ·obtain⟨i,hi,hix⟩:=htake x ((h2 x).1 hx);rw[<- hix]; exact hmono i (n+1) (by omega) hn1
theorem Vw(l:List Elem):SS (AA l):=(RG (FZ l) _ (ba _)).1
theorem KJ(l:List Elem)(x:Elem):x∈AA l↔x∈l:=by
 unfold AA xU;rw[(RG (FZ l) _ (ba _)).2.1,bx];exact(zB l).mem_iff
theorem filter_lt{l:List Elem}{p q:Elem->Bool}(hpq: ∀ x,p x=true->q x=true){y:Elem}(hy:y∈l)(hq:q y=true)(hp:p y=false):(l.filter p).length<(l.filter q).length:=by
 induction l with
 |nil=>cases hy
 |cons x l ih =>
  have hle: ∀ l:List Elem,(l.filter p).length<=(l.filter q).length:=by
   intro l;induction l with
   |nil=>simp
   |cons z l ih =>
    simp only[fq];by_cases h1:p z=true
    ·rw[bc h1,bc (hpq z h1)]; simp; exact ih
    ·rw[bB h1]; split
     ·simp; omega
     ·exact ih
  simp only[fq];rcases bv.1 hy with rfl|hy
  ·rw[bB (by rw[hp]; decide),bc hq];have:=hle l;simp; omega
  ·have:=ih hy;by_cases h1:p x=true
   ·rw[bc h1,bc (hpq x h1)]; simp; exact this
   ·rw[bB h1]; split
    ·simp; omega
    ·exact this
theorem abv(l:List Elem): ∀ (n:Nat) (b:Elem),b∈l->(l.filter fun z=>decide (oJ z b<0)).length<=n-> ∃ z∈l,pO z b=true/\l.any (EM z)=false:=by
 intro n;induction n with
 |zero =>
  intro b hb hn;refine⟨b,hb,Kq b,?_⟩;rw[cq];intro y hy hab
  have:y∈l.filter fun z=>decide (oJ z b<0):=eE.2 ⟨hy,by simpa using TF hab⟩
  have:=List.length_pos_of_mem this;omega
 |succ n ih =>
  intro b hb hn;cases hm:l.any (EM b) with
  |false=>exact⟨b,hb,Kq b,hm⟩
  |true =>
   rw[cL] at hm;obtain⟨y,hy,hab⟩:=hm;have hlt:=TF hab;have hfl:(l.filter fun z=>decide (oJ z y<0)).length<(l.filter fun z=>decide (oJ z b<0)).length:=by
    refine filter_lt (y:=y) (fun x hx=>?_) hy (by simpa using hlt) (by rw[qh.2 rfl]; decide);simp only[aq] at hx ⊢;exact Dz hx hlt
   obtain⟨z,hz,h1,h2⟩:=ih y hy (by omega);exact⟨z,hz,Dt h1 (BQ.1 hab).1,h2⟩
theorem adM(l:List Elem){b:Elem}(hb:b∈l): ∃ z∈l,pO z b=true/\l.any (EM z)=false:=abv l _ b hb (ba _)
theorem any_congr{a b:List Elem}{p:Elem->Bool}(h: ∀ x,x∈a↔x∈b):a.any p=b.any p:=by
 rw[cR,cL,cL];exact⟨fun⟨x,h1,h2⟩=>⟨x,(h x).1 h1,h2⟩,fun⟨x,h1,h2⟩=>⟨x,(h x).2 h1,h2⟩⟩
theorem iY(l:List Elem):SS (bG l)/\ ∀ x,x∈bG l↔x∈l/\l.any (EM x)=false:=by
 refine⟨Vw _,fun x=>?_⟩;rw[bG,KJ,eE];simp[zD]
theorem He(l:List Elem)(e:Elem):(bG l).any (fun b=>pO b e)=l.any fun b=>pO b e:=by
 rw[cR,cL,cL];constructor
 ·rintro⟨x,h1,h2⟩; exact⟨x,((iY l).2 x |>.1 h1).1,h2⟩
 ·rintro⟨x,h1,h2⟩;obtain⟨z,hz,hz1,hz2⟩:=adM l h1;exact⟨z,((iY l).2 z).2 ⟨hz,hz2⟩,Dt hz1 h2⟩
theorem Vg(l:List Elem):bG (bG l)=bG l:=by
 refine KF (iY _).1 (iY l).1 fun x=>?_
 rw[(iY (bG l)).2];constructor
 ·exact fun h=>h.1
 ·intro h;refine⟨h,?_⟩;have:=((iY l).2 x).1 h;rw[cq] at this ⊢;exact fun y hy=>this.2 y (((iY l).2 y).1 hy).1
theorem zF{l:List Elem}{x:Elem}(h:x∈bG l):x∈l:=(((iY l).2 x).1 h).1
theorem Hy(l:List Elem):(bG l).length<=l.length:=by
 have h1:=Ns (wo (l.filter (zD l))) (wo (l.filter (zD l))).length;have h2:=RF (l.filter (zD l));have h3:=fw (zD l) l;show(xR _ _).length<=_;omega
end Go.Proofs.YtdloaandiobgdaaGreatDoor
