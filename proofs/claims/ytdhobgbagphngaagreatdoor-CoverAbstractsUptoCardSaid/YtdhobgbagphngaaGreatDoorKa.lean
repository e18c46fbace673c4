/-
 A part of the proof. No condition.
-/
import Derived.Test.YtdhobgbagphngaaGreatDoorSb
import Derived.Test.YtdhobgbagphngaaGreatDoorLg
import Derived.Test.YtdhobgbagphngaaGreatDoorLe
import Derived.Test.YtdhobgbagphngaaGreatDoorSc
namespace Go.Proofs.YtdhobgbagphngaaGreatDoor
open Go.Ab Go.Proofs
set_option maxRecDepth 100000
def pJ:List Int->List Int->Bool
 |[],[]=>true
 |x::a,y::b=>decide (x<=y)&&pJ a b
 |_,_=>false
def tV(a b:Elem):Bool:=(a.value==b.value)&&pJ a.counts b.counts
theorem rG: ∀ {a b:List Int},pJ a b=true↔a.length=b.length/\ ∀ j,j<a.length->a.getD j 0<=b.getD j 0:=by
 intro a;induction a with
 |nil=>intro b; cases b<;>simp[pJ]
 |cons x a ih =>
  intro b;cases b with
  |nil=>simp[pJ]
  |cons y b =>
   simp only[pJ,Bool.and_eq_true,decide_eq_true_eq,ih,List.length_cons];constructor
   ·rintro⟨h1,h2,h3⟩;refine⟨by omega,fun j hj=>?_⟩;cases j with
    |zero=>simpa using h1
    |succ j=>simpa using h3 j (by omega)
   ·rintro⟨h1,h2⟩;exact⟨by simpa using h2 0 (by omega),by omega,fun j hj=>by simpa using h2 (j+1) (by omega)⟩
theorem S.vT(a b:Elem)(ha:a.counts.length<2^40)(_hb:b.counts.length<2^40):aj Tryz.prog 92 [.dat (.elem a),.dat (.elem b)] (.bool (tV a b)):=by
 refine aj.of Bd.vT (by simp) rfl rfl ?_;repeat(refine VC.mk (by first|exact id|exact fun h=>⟨h,h⟩|(intro h; rw[h]; rfl)) ?_)
 refine⟨fun h1=>?_,fun h1=>?_⟩
 ·conv=>whnf
  refine ak.bool ?_;by_cases hv:a.value=b.value
  ·have:pJ a.counts b.counts=false:=by
    rw[Bool.eq_false_iff]; intro h; rw[rG] at h; simp[hv,h.1] at h1
   simp[tV,this]
  ·simp[tV,hv]
 ·have h2:a.value=b.value/\a.counts.length=b.counts.length:=by
   by_cases hv:a.value=b.value
   ·simp[hv] at h1; exact⟨hv,by omega⟩
   ·simp[hv] at h1
  refine aC.same [3,22,23] (fun i:Nat=>[(24,.int i)]) (fun i=>i<=a.counts.length/\ ∀ j,j<i->a.counts.getD j 0<=b.counts.getD j 0) (fun i=>a.counts.length-i) 0 rfl (by decide) rfl (fun _=>rfl) ⟨by omega,fun j hj=>by omega⟩ ⟨⟨_,rfl,rfl⟩,trivial⟩ ?_;refine⟨rfl,?_⟩;rintro i ⟨hi,hall⟩;refine⟨fun h3=>?_,fun h3=>?_⟩
  ·have hi':i<a.counts.length:=by simpa using h3
   repeat(refine VC.mk (by simp only[Rw.rng] at *; omega) ?_)
   refine⟨fun h4=>?_,fun h4=>?_⟩
   ·conv=>whnf
    refine ak.bool ?_
    have:pJ a.counts b.counts=false:=by
     rw[Bool.eq_false_iff]; intro h; rw[rG] at h; have:=h.2 i hi'; simp only[Int.toNat_natCast,decide_eq_true_eq] at h4; omega
    simp[tV,this]
   ·conv=>whnf
    refine .mk (by simp only[okI] at *; omega) ?_;refine⟨i+1,⟨by omega,fun j hj=>?_⟩,by omega,⟨⟨_,rfl,rfl⟩,trivial⟩,?_,rfl⟩
    ·by_cases e:j=i
     ·subst e; simp only[Int.toNat_natCast,decide_eq_false_iff_not] at h4; omega
     ·exact hall j (by omega)
    ·repeat' (first|exact trivial|exact⟨_,rfl,rfl⟩|constructor)
  ·conv=>whnf
   refine ak.bool ?_;have hi':a.counts.length<=i:=by simpa using h3
   simp only[tV,Bool.and_eq_true,beq_iff_eq];rw[Bool.eq_iff_iff]; simp only[iff_true];exact⟨h2.1,rG.2 ⟨h2.2,fun j hj=>hall j (by omega)⟩⟩
def TP(a b:Int):Int:=if a<b then -1 else if b<a then 1 else 0
def cmpL:List Int->List Int->Int
 |[],[]=>0
 |[],_::_=> -1
 |_::_,[]=>1
 |x::a,y::b=>if x<y then -1 else if y<x then 1 else cmpL a b
def jY(a b:Elem):Int:=if a.value<b.value then -1 else if b.value<a.value then 1 else cmpL a.counts b.counts
theorem dA{α:Type}{l:List α}{i:Nat}(d:α)(h:i<l.length):l.drop i=l.getD i d::l.drop (i+1):=by
 rw[List.drop_eq_getElem_cons h]; simp[h]
theorem MQ{a b:List Int}{i:Nat}(ha:i<a.length)(hb:i<b.length) :
  cmpL (a.drop i) (b.drop i)=if a.getD i 0<b.getD i 0 then -1 else if b.getD i 0<a.getD i 0 then 1 else cmpL (a.drop (i+1)) (b.drop (i+1)):=by
 rw[dA 0 ha,dA 0 hb]; rfl
theorem EP{a b:List Int}{i:Nat}(hi:a.length<=i\/b.length<=i)(h1:i<=a.length)(h2:i<=b.length) :
  cmpL (a.drop i) (b.drop i)=if a.length<b.length then -1 else if b.length<a.length then 1 else 0:=by
 by_cases ha:a.length<=i
 ·have e:a.drop i=[]:=List.drop_eq_nil_of_le ha;rw[e];by_cases hb:b.length<=i
  ·rw[List.drop_eq_nil_of_le hb,if_neg (by omega),if_neg (by omega)]; rfl
  ·rw[dA 0 (by omega),if_pos (by omega)]; rfl
 ·have hb:b.length<=i:=by omega
  rw[List.drop_eq_nil_of_le hb,dA 0 (by omega),if_neg (by omega),if_pos (by omega)]; rfl
theorem S.cmp_isNaN_int(a:Int):aj Tryz.prog 141 [.int a] (.bool false):=by
 refine aj.of Bd.cmp_isNaN_int (by simp) rfl rfl ?_;refine ak.bool ?_;simp
theorem S.cmp_Compare_int(a b:Int):aj Tryz.prog 106 [.int a,.int b] (.int (TP a b)):=by
 refine aj.of Bd.cmp_Compare_int (by simp) rfl rfl ?_;refine ah.pure (S.cmp_isNaN_int a) rfl ?_;refine ah.pure (S.cmp_isNaN_int b) rfl ?_;refine Fork.mk (fun h1=>by cases h1) (fun _=>?_);refine Fork.mk (fun h1=>by cases h1) (fun _=>?_);refine⟨fun h1=>?_,fun h1=>?_⟩
 ·conv=>whnf
  exact ak.int (by simp only[decide_eq_true_eq] at h1; simp[TP,h1])
 ·conv=>whnf
  simp only[decide_eq_false_iff_not] at h1;refine⟨fun h2=>?_,fun h2=>?_⟩
  ·conv=>whnf
   exact ak.int (by simp only[decide_eq_true_eq] at h2; simp[TP,h1,h2])
  ·conv=>whnf
   exact ak.int (by simp only[decide_eq_false_iff_not] at h2; simp[TP,h1,h2])
theorem S.JA(a b:List Int)(ha:a.length<2^40)(hb:b.length<2^40):aj Tryz.prog 107 [.row 0 false (.ints a),.row 0 false (.ints b)] (.int (cmpL a b)):=by
 refine aj.of Bd.kW (by simp) rfl rfl ?_;refine aC.same [0,1,9,10] (fun i:Nat=>[(11,.int i)]) (fun i=>i<=a.length/\i<=b.length/\cmpL a b=cmpL (a.drop i) (b.drop i)) (fun i=>a.length-i) 0 rfl (by decide) rfl (fun _=>rfl) ⟨by omega,by omega,rfl⟩ ⟨⟨_,rfl,rfl⟩,trivial⟩ ?_;refine⟨rfl,?_⟩;rintro i ⟨hi,hj,he⟩;refine⟨fun h3=>?_,fun h3=>?_⟩
 ·have hi':i<a.length:=by simpa using h3
  refine .mk (by simp only[Rw.rng] at *; omega) ?_;refine⟨fun h4=>?_,fun h4=>?_⟩
  ·conv=>whnf
   have hb':b.length<=i:=by simpa using h4
   refine ak.int ?_;rw[he,EP (.inr hb') hi hj,if_neg (by omega),if_pos (by omega)]
  ·have hb':i<b.length:=by simpa using h4
   refine .mk (by simp only[Rw.rng] at *; omega) ?_;refine ah.pure (S.cmp_Compare_int _ _) rfl ?_;rw[MQ hi' hb'] at he;conv=>whnf
   simp only[Int.toNat_natCast];refine⟨fun h5=>?_,fun h5=>?_⟩
   ·conv=>whnf
    refine ak.int ?_;rw[he];simp only[bne_iff_ne,ne_eq] at h5 ⊢;generalize a.getD i 0=x at h5 ⊢;generalize b.getD i 0=y at h5 ⊢;unfold TP at h5 ⊢;by_cases h6:x<y
    ·simp[h6]
    ·by_cases h7:y<x
     ·simp[h6,h7]
     ·simp[h6,h7] at h5
   ·conv=>whnf
    refine .mk (by simp only[okI] at *; omega) ?_;conv=>whnf
    have h6: ¬ a.getD i 0<b.getD i 0/\ ¬ b.getD i 0<a.getD i 0:=by
     simp only[bne_eq_false_iff_eq] at h5;generalize a.getD i 0=x at h5 ⊢;generalize b.getD i 0=y at h5 ⊢;unfold TP at h5;by_cases h6:x<y
     ·simp[h6] at h5
     ·by_cases h7:y<x
      ·simp[h6,h7] at h5
      ·exact⟨h6,h7⟩
    refine⟨i+1,⟨by omega,by omega,by rw[he,if_neg h6.1,if_neg h6.2]⟩,by omega,⟨⟨_,rfl,rfl⟩,trivial⟩,?_,rfl⟩;repeat' (first|exact trivial|exact⟨_,rfl,rfl⟩|constructor)
 ·have hi':a.length<=i:=by simpa using h3
  refine⟨fun h4=>?_,fun h4=>?_⟩
  ·conv=>whnf
   refine ak.int ?_;rw[he,EP (.inl hi') hi hj,if_pos (by simpa using h4)]
  ·conv=>whnf
   refine ak.int ?_
   have:b.length<=a.length:=by simpa using h4
   rw[he,EP (.inl hi') hi hj,if_neg (by omega),if_neg (by omega)]
theorem S.wJ(x y:Int)(f:Bool):aj Tryz.prog 105 [.row 0 f (.ints [x,y])] (.int (if x≠0 then x else y)):=by
 refine aj.of Bd.wJ (by simp) rfl rfl ?_;refine aC.same [3,6,7] (fun i:Nat=>[(8,.int i)]) (fun i=>i<=2/\(0<i->x=0)/\(1<i->y=0)) (fun i=>2-i) 0 rfl (by decide) rfl (fun _=>rfl) ⟨by omega,by omega,by omega⟩ ⟨⟨_,rfl,rfl⟩,trivial⟩ ?_;refine⟨rfl,?_⟩;rintro i ⟨hi,h0,h1⟩;refine⟨fun h3=>?_,fun h3=>?_⟩
 ·have hi':i<2:=by simp at h3; omega
  refine .mk (by simp only[Rw.rng,List.length_cons,List.length_nil]; omega) ?_;refine⟨fun h4=>?_,fun h4=>?_⟩
  ·conv=>whnf
   refine ak.int ?_;simp only[Int.toNat_natCast,bne_iff_ne,ne_eq] at h4 ⊢;by_cases e:i=0
   ·subst e; simp at h4 ⊢; simp[h4]
   ·have:i=1:=by omega
    subst this; simp at h4 ⊢; simp[h0]
  ·conv=>whnf
   refine .mk (by simp only[okI] at *; omega) ?_;refine⟨i+1,⟨by omega,fun _=>?_,fun hlt=>?_⟩,by omega,⟨⟨_,rfl,rfl⟩,trivial⟩,?_,rfl⟩
   ·by_cases e:i=0
    ·subst e; simpa using h4
    ·exact h0 (by omega)
   ·have:i=1:=by omega
    subst this; simpa using h4
   ·repeat' (first|exact trivial|exact⟨_,rfl,rfl⟩|constructor)
 ·have:i=2:=by simp at h3; omega
  subst this;refine ak.int ?_;simp[h0,h1]
theorem S.iJ(a b:Elem)(ha:a.counts.length<2^40)(hb:b.counts.length<2^40):aj Tryz.prog 72 [.dat (.elem a),.dat (.elem b)] (.int (jY a b)):=by
 refine aj.of Bd.iJ (by simp) rfl rfl ?_;refine ah.pure (S.cmp_Compare_int a.value b.value) rfl ?_;refine ah.pure (S.JA a.counts b.counts ha hb) rfl ?_;refine ah.pure (S.wJ _ _ true) rfl ?_;refine ak.int ?_;unfold jY TP;by_cases h6:a.value<b.value
 ·simp[h6]
 ·by_cases h7:b.value<a.value
  ·simp[h6,h7]
  ·simp[h6,h7]
def eH(l:List Elem):Prop:= ∀ e∈l,e.counts.length<2^40
theorem eH.get{l:List Elem}(h:eH l)(i:Nat):(l.getD i default).counts.length<2^40:=by
 rw[List.getD_eq_getElem?_getD];cases e:l[i]? with
 |none=>show([]:List Int).length<2^40; decide
 |some x=>exact h x (List.mem_of_getElem? e)
theorem pK{α:Type}{l:List α}{p:α->Bool}{d:α}{i:Nat}(hi:i<l.length)(h:(l.take i).any p=false):(l.take (i+1)).any p=p (l.getD i d):=by
 rw[List.take_add_one,List.any_append,h,Bool.false_or];simp[hi]
theorem lZ{α:Type}{l:List α}{p:α->Bool}{d:α}{i:Nat}(hi:i<l.length)(h:p (l.getD i d)=true):l.any p=true:=by
 rw[List.any_eq_true];exact⟨l[i],List.getElem_mem hi,by simpa [hi] using h⟩
theorem S.jB(l:List Elem)(e:Elem)(f:Bool)(hl:l.length<2^40)(hs:eH l)(he:e.counts.length<2^40):aj Tryz.prog 48 [.row 3 f (.elems l),.dat (.elem e)] (.bool (l.any fun b=>tV b e)):=by
 refine aj.of Bd.jB (by simp) rfl rfl ?_;refine aC.same [3,7,8] (fun i:Nat=>[(9,.int i)]) (fun i=>i<=l.length/\(l.take i).any (fun b=>tV b e)=false) (fun i=>l.length-i) 0 rfl (by decide) rfl (fun _=>rfl) ⟨by omega,by simp⟩ ⟨⟨_,rfl,rfl⟩,trivial⟩ ?_;refine⟨rfl,?_⟩;rintro i ⟨hi,hall⟩;refine⟨fun h3=>?_,fun h3=>?_⟩
 ·have hi':i<l.length:=by simpa using h3
  refine .mk (by simp only[Rw.rng] at *; omega) ?_;refine ah.pure (S.vT _ _ (by simpa using hs.get i) he) rfl ?_;refine⟨fun h4=>?_,fun h4=>?_⟩
  ·conv=>whnf
   refine ak.bool ?_;simp only[Int.toNat_natCast] at h4;exact lZ hi' h4
  ·conv=>whnf
   refine .mk (by simp only[okI] at *; omega) ?_;conv=>whnf
   simp only[Int.toNat_natCast] at h4;refine⟨i+1,⟨by omega,by rw[pK hi' hall]; exact h4⟩,by omega,⟨⟨_,rfl,rfl⟩,trivial⟩,?_,rfl⟩;repeat' (first|exact trivial|exact⟨_,rfl,rfl⟩|constructor)
 ·conv=>whnf
  refine ak.bool ?_;have hi':l.length<=i:=by simpa using h3
  rw[List.take_of_length_le hi'] at hall; exact hall
theorem S.yS(a b:List Int)(ha:a.length<2^40)(hb:b.length<2^40):aj Tryz.prog 55 [.row 0 false (.ints a),.row 0 false (.ints b)] (.int (cmpL a b)):=by
 refine aj.of Bd.yS (by simp) rfl rfl ?_;refine aC.same [0,1] (fun i:Nat=>[(5,.int i)]) (fun i=>i<=a.length/\i<=b.length/\cmpL a b=cmpL (a.drop i) (b.drop i)) (fun i=>a.length-i) 0 rfl (by decide) rfl (fun _=>rfl) ⟨by omega,by omega,rfl⟩ ⟨⟨_,rfl,rfl⟩,trivial⟩ ?_;refine⟨rfl,?_⟩;rintro i ⟨hi,hj,he⟩;repeat(refine VC.mk (by first|exact id|exact fun h=>⟨h,h⟩) ?_)
 refine⟨fun h3=>?_,fun h3=>?_⟩
 ·have hi':i<a.length/\i<b.length:=by
   by_cases h:i<a.length
   ·simp[h] at h3; exact⟨h,by omega⟩
   ·simp[h] at h3
  rw[MQ hi'.1 hi'.2] at he;obtain⟨hi1,hi2⟩:=hi';repeat(refine VC.mk (by simp only[Rw.rng] at *; omega) ?_)
  refine⟨fun h5=>?_,fun h5=>?_⟩
  ·conv=>whnf
   refine ak.int ?_;simp only[Int.toNat_natCast,decide_eq_true_eq] at h5;rw[he,if_pos h5]
  ·conv=>whnf
   repeat(refine VC.mk (by simp only[Rw.rng] at *; omega) ?_)
   simp only[Int.toNat_natCast,decide_eq_false_iff_not] at h5;refine⟨fun h6=>?_,fun h6=>?_⟩
   ·conv=>whnf
    refine ak.int ?_;simp only[Int.toNat_natCast,decide_eq_true_eq] at h6;rw[he,if_neg h5,if_pos h6]
   ·conv=>whnf
    refine .mk (by simp only[okI] at *; omega) ?_;conv=>whnf
    simp only[Int.toNat_natCast,decide_eq_false_iff_not] at h6;refine⟨i+1,⟨by omega,by omega,by rw[he,if_neg h5,if_neg h6]⟩,by omega,⟨⟨_,rfl,rfl⟩,trivial⟩,?_,rfl⟩;repeat' (first|exact trivial|exact⟨_,rfl,rfl⟩|constructor)
 ·have hi':a.length<=i\/b.length<=i:=by
   by_cases h:i<a.length
   ·simp[h] at h3; exact .inr (by omega)
   ·exact .inl (by omega)
  have hx:=EP hi' hi hj;rw[<- he] at hx;refine⟨fun h4=>?_,fun h4=>?_⟩
  ·conv=>whnf
   refine ak.int ?_;rw[hx,if_pos (by simpa using h4)]
  ·conv=>whnf
   have h5: ¬ a.length<b.length:=by simpa using h4
   refine⟨fun h6=>?_,fun h6=>?_⟩
   ·conv=>whnf
    refine ak.int ?_;rw[hx,if_neg h5,if_pos (by simpa using h6)]
   ·conv=>whnf
    refine ak.int ?_;rw[hx,if_neg h5,if_neg (by simpa using h6)]
theorem S.qK(a b:Elem)(ha:a.counts.length<2^40)(hb:b.counts.length<2^40):aj Tryz.prog 31 [.dat (.elem a),.dat (.elem b)] (.int (jY a b)):=by
 refine aj.of Bd.qK (by simp) rfl rfl ?_;refine⟨fun h1=>?_,fun h1=>?_⟩
 ·conv=>whnf
  exact ak.int (by simp only[decide_eq_true_eq] at h1; simp[jY,h1])
 ·conv=>whnf
  simp only[decide_eq_false_iff_not] at h1;refine⟨fun h2=>?_,fun h2=>?_⟩
  ·conv=>whnf
   exact ak.int (by simp only[decide_eq_true_eq] at h2; simp[jY,h1,h2])
  ·simp only[decide_eq_false_iff_not] at h2;refine ah.pure (S.yS a.counts b.counts ha hb) rfl ?_;exact ak.int (by simp[jY,h1,h2])
theorem cmpL_eq: ∀ {a b:List Int},cmpL a b=0↔a=b:=by
 intro a;induction a with
 |nil=>intro b; cases b<;>simp[cmpL]
 |cons x a ih =>
  intro b;cases b with
  |nil=>simp[cmpL]
  |cons y b =>
   simp only[cmpL];split
   ·simp; omega
   ·split
    ·simp; omega
    ·rw[ih]; simp; intro _; omega
theorem kU{a b:Elem}:jY a b=0↔a=b:=by
 obtain⟨v,c⟩:=a; obtain⟨w,d⟩:=b;simp only[jY];split
 ·simp; omega
 ·split
  ·simp; omega
  ·rw[cmpL_eq]; simp; intro _; omega
theorem S.AV(a b:List Elem)(f g:Bool)(ha:a.length<2^40)(hb:b.length<2^40)(sa:eH a)(sb:eH b):aj Tryz.prog 19 [.row 3 f (.elems a),.row 3 g (.elems b)] (.bool (decide (a=b))):=by
 refine aj.of Bd.AV (by simp) rfl rfl ?_;refine⟨fun h1=>?_,fun h1=>?_⟩
 ·conv=>whnf
  refine ak.bool ?_;refine decide_eq_false ?_;simp at h1;rintro rfl; exact h1 rfl
 ·have hlen:a.length=b.length:=by simp at h1; omega
  refine aC.same [0,1] (fun i:Nat=>[(5,.int i)]) (fun i=>i<=a.length/\a.take i=b.take i) (fun i=>a.length-i) 0 rfl (by decide) rfl (fun _=>rfl) ⟨by omega,by simp⟩ ⟨⟨_,rfl,rfl⟩,trivial⟩ ?_;refine⟨rfl,?_⟩;rintro i ⟨hi,hall⟩;refine⟨fun h3=>?_,fun h3=>?_⟩
  ·have hi':i<a.length:=by simpa using h3
   repeat(refine VC.mk (by simp only[Rw.rng] at *; omega) ?_)
   refine ah.pure (S.qK _ _ (by simpa using sa.get i) (by simpa using sb.get i)) rfl ?_;refine⟨fun h4=>?_,fun h4=>?_⟩
   ·conv=>whnf
    refine ak.bool ?_;refine decide_eq_false ?_;rintro rfl;simp only[Int.toNat_natCast,bne_iff_ne,ne_eq] at h4;exact h4 (kU.2 rfl)
   ·conv=>whnf
    refine .mk (by simp only[okI] at *; omega) ?_;conv=>whnf
    simp only[Int.toNat_natCast,bne_eq_false_iff_eq] at h4;rw[kU] at h4;refine⟨i+1,⟨by omega,?_⟩,by omega,⟨⟨_,rfl,rfl⟩,trivial⟩,?_,rfl⟩
    ·rw[List.take_add_one,List.take_add_one,hall]
     congr 1
     have hb':i<b.length:=by omega
     simp only[List.getD_eq_getElem?_getD,List.getElem?_eq_getElem hi',List.getElem?_eq_getElem hb',Option.getD_some] at h4;simp[hi',hb',h4]
    ·repeat' (first|exact trivial|exact⟨_,rfl,rfl⟩|constructor)
  ·conv=>whnf
   refine ak.bool ?_;have hi':a.length<=i:=by simpa using h3
   rw[List.take_of_length_le hi',List.take_of_length_le (by omega)] at hall;symm; simpa using hall
def Vm(l:List Elem):Bool:=decide (60<l.length)||l.any fun e=>decide (8<e.counts.length)
theorem S.wK(l:List Elem)(f:Bool)(hl:l.length<2^40)(_hs:eH l):aj Tryz.prog 5 [.row 3 f (.elems l)] (.bool (Vm l)):=by
 refine aj.of Bd.wK (by simp) rfl rfl ?_;refine⟨fun h1=>?_,fun h1=>?_⟩
 ·conv=>whnf
  refine ak.bool ?_
  have:60<l.length:=by simp at h1; omega
  simp[Vm,this]
 ·conv=>whnf
  have h60: ¬ 60<l.length:=by simp at h1; omega
  refine aC.same [0] (fun i:Nat=>[(3,.int i)]) (fun i=>i<=l.length/\(l.take i).any (fun e=>decide (8<e.counts.length))=false) (fun i=>l.length-i) 0 rfl (by decide) rfl (fun _=>rfl) ⟨by omega,by simp⟩ ⟨⟨_,rfl,rfl⟩,trivial⟩ ?_;refine⟨rfl,?_⟩;rintro i ⟨hi,hall⟩;refine⟨fun h3=>?_,fun h3=>?_⟩
  ·have hi':i<l.length:=by simpa using h3
   refine .mk (by simp only[Rw.rng] at *; omega) ?_;refine⟨fun h4=>?_,fun h4=>?_⟩
   ·conv=>whnf
    refine ak.bool ?_;simp only[Int.toNat_natCast] at h4;have h5:(l.any fun e=>decide (8<e.counts.length))=true:=lZ (d:=default) hi' (by simp only[decide_eq_true_eq] at h4 ⊢; omega);simp[Vm,h5]
   ·conv=>whnf
    refine .mk (by simp only[okI] at *; omega) ?_;conv=>whnf
    simp only[Int.toNat_natCast] at h4;refine⟨i+1,⟨by omega,by rw[pK (d:=default) hi' hall]; simp only[decide_eq_false_iff_not] at h4 ⊢; omega⟩,by omega,⟨⟨_,rfl,rfl⟩,trivial⟩,?_,rfl⟩;repeat' (first|exact trivial|exact⟨_,rfl,rfl⟩|constructor)
  ·conv=>whnf
   refine ak.bool ?_;have hi':l.length<=i:=by simpa using h3
   rw[List.take_of_length_le hi'] at hall;simp only[Vm,hall,Bool.or_false];simp only[h60,decide_false]
def Ag(n:Int):Bool:=decide (0<=n)&&decide (n<=1048576)
theorem S.kQ(l:List Int)(f:Bool)(hl:l.length<2^40):aj Tryz.prog 53 [.row 0 f (.ints l)] (.bool (l.all Ag)):=by
 refine aj.of Bd.kQ (by simp) rfl rfl ?_;refine aC.same [5,6] (fun i:Nat=>[(7,.int i)]) (fun i=>i<=l.length/\(l.take i).all Ag=true) (fun i=>l.length-i) 0 rfl (by decide) rfl (fun _=>rfl) ⟨by omega,by simp⟩ ⟨⟨_,rfl,rfl⟩,trivial⟩ ?_;refine⟨rfl,?_⟩;rintro i ⟨hi,hall⟩;refine⟨fun h3=>?_,fun h3=>?_⟩
 ·have hi':i<l.length:=by simpa using h3
  repeat(refine VC.mk (by first|exact id|(intro h; rw[h]; rfl)|(simp only[Rw.rng] at *; omega)) ?_)
  refine⟨fun h4=>?_,fun h4=>?_⟩
  ·conv=>whnf
   refine ak.bool ?_;simp only[Int.toNat_natCast] at h4;have h5:Ag (l.getD i 0)=false:=by
    have key: ∀ x:Int,(decide (x<0)||decide (1048576<x))=true->Ag x=false:=by
     intro x h4;unfold Ag;by_cases h0:x<0
     ·simp; omega
     ·simp[h0] at h4; simp; omega
    exact key _ h4
   rw[Bool.eq_false_iff];intro h;rw[List.all_eq_true] at h;have:=h l[i] (List.getElem_mem hi');rw[show l.getD i 0=l[i] by simp[hi']] at h5;rw[this] at h5; cases h5
  ·conv=>whnf
   refine .mk (by simp only[okI] at *; omega) ?_;conv=>whnf
   simp only[Int.toNat_natCast] at h4;refine⟨i+1,⟨by omega,?_⟩,by omega,⟨⟨_,rfl,rfl⟩,trivial⟩,?_,rfl⟩
   ·have h5:Ag (l.getD i 0)=true:=by
     have key: ∀ x:Int,(decide (x<0)||decide (1048576<x))=false->Ag x=true:=by
      intro x h4;unfold Ag;by_cases h0:x<0
      ·simp[h0] at h4
      ·simp[h0] at h4; simp; omega
     exact key _ h4
    rw[List.take_add_one,List.all_append,hall];simpa [hi'] using h5
   ·repeat' (first|exact trivial|exact⟨_,rfl,rfl⟩|constructor)
 ·conv=>whnf
  refine ak.bool ?_;have hi':l.length<=i:=by simpa using h3
  rw[List.take_of_length_le hi'] at hall; exact hall
def bD(e:Elem):Int:=if 6<e.counts.length then 0 else if e.counts.all Ag=true then e.counts.sum else 0
theorem yQ: ∀ {l:List Int},l.all Ag=true->0<=l.sum/\l.sum<=l.length*1048576:=by
 intro l;induction l with
 |nil=>intro _; simp
 |cons x l ih =>
  intro h;simp only[List.all_cons,Bool.and_eq_true,Ag,decide_eq_true_eq] at h;have:=ih h.2;simp only[List.sum_cons,List.length_cons];omega
theorem Qk{l:List Int}(h:l.all Ag=true)(i:Nat):(l.take i).all Ag=true:=by
 rw[List.all_eq_true] at h ⊢;exact fun x hx=>h x (List.mem_of_mem_take hx)
theorem Ql{l:List Int}{i:Nat}(hi:i<l.length):(l.take (i+1)).sum=(l.take i).sum+l.getD i 0:=by
 rw[List.take_add_one,List.sum_append]; simp[hi]
theorem S.lS(e:Elem)(hl:e.counts.length<2^40):aj Tryz.prog 28 [.dat (.elem e)] (.int (bD e)):=by
 refine aj.of Bd.lS (by simp) rfl rfl ?_;repeat(refine VC.mk id ?_)
 refine ah.eG (fun _=>S.kQ e.counts false hl) rfl ?_;repeat(refine VC.mk (by first|exact id|(intro h; rw[h]; rfl)) ?_)
 refine⟨fun h1=>?_,fun h1=>?_⟩
 ·conv=>whnf
  refine ak.int ?_;unfold bD;by_cases h:6<e.counts.length
  ·rw[if_pos h]
  ·rw[if_neg h,if_neg];have h': ¬ (6:Int)<e.counts.length:=by omega
   simp[h'] at h1;intro hh;rw[List.all_eq_true] at hh;obtain⟨x,hx,hx'⟩:=h1;exact absurd (hh x hx) (by simp[hx'])
 ·have h2: ¬ 6<e.counts.length/\e.counts.all Ag=true:=by
   by_cases h:(6:Int)<e.counts.length
   ·simp[h] at h1
   ·simp[h] at h1;exact⟨by omega,by rw[List.all_eq_true]; exact h1⟩
  refine aC.same [17,18] (fun i:Nat=>[(19,.int i),(3,.int (e.counts.take i).sum)]) (fun i=>i<=e.counts.length) (fun i=>e.counts.length-i) 0 rfl (by decide) rfl (fun _=>rfl) (by omega) ⟨⟨_,rfl,rfl⟩,⟨_,rfl,rfl⟩,trivial⟩ ?_;refine⟨rfl,?_⟩;rintro i hi;have hb:=yQ (Qk h2.2 i);have hb':((e.counts.take i).length:Int)<=6:=by simp; omega
  refine⟨fun h3=>?_,fun h3=>?_⟩
  ·have hi':i<e.counts.length:=by simpa using h3
   have hs:=Ql hi';have hc:=yQ (Qk h2.2 (i+1));have hc':((e.counts.take (i+1)).length:Int)<=6:=by simp; omega
   repeat(refine VC.mk (by first|(simp only[okI,Int.toNat_natCast] at *; rw[<- hs]; omega)|(simp only[okI,Rw.rng] at *; omega)) ?_)
   refine⟨i+1,by omega,by omega,⟨⟨_,rfl,rfl⟩,⟨_,rfl,?_⟩,trivial⟩,?_,rfl⟩
   ·rw[hs]; simp[V.aG,rD]
   ·repeat' (first|exact trivial|exact⟨_,rfl,rfl⟩|constructor)
  ·conv=>whnf
   refine ak.int ?_;have hi':e.counts.length<=i:=by simpa using h3
   rw[List.take_of_length_le hi'];simp[bD,h2.1,h2.2]
def AU(x y:Elem):Bool:=tV y x&&(jY y x !=0)
theorem S.kX(x y:Elem)(d:Bool)(hx:x.counts.length<2^40)(hy:y.counts.length<2^40):aj Tryz.prog 146 [.agg [.int x.value,.row 0 false (.ints x.counts),.bool d],.dat (.elem y)] (.bool (AU x y)):=by
 refine aj.of Bd.kX (by simp) rfl rfl ?_;refine ah.pure (S.vT y x hy hx) rfl ?_;repeat(refine VC.mk (by first|exact id|exact fun h=>⟨h,h⟩) ?_)
 refine ah.eG (fun _=>S.iJ y x hy hx) rfl ?_;repeat(refine VC.mk id ?_)
 refine ak.bool ?_;cases h:tV y x<;>simp[AU,h]
def abo(p:Elem->Bool)(l:List Elem):Int:=if l.any p=true then(l.findIdx p:Int) else -1
theorem LM{p:Elem->Bool}{l:List Elem}{i:Nat}(hi:i<l.length)(h0:(l.take i).any p=false)(h1:p (l.getD i default)=true):l.findIdx p=i:=by
 rw[List.findIdx_eq hi];refine⟨by simpa [hi] using h1,fun j hj=>?_⟩;rw[List.any_eq_false] at h0;have:=h0 l[j] (by rw[List.mem_take_iff_getElem]; exact⟨j,by omega,rfl⟩);simpa using this
theorem S.TQ(l:List Elem)(x:Elem)(d f:Bool)(hl:l.length<2^40)(hs:eH l)(hx:x.counts.length<2^40) :
  aj Tryz.prog 169 [.row 3 f (.elems l),.fn (146+4096) [.int x.value,.row 0 false (.ints x.counts),.bool d]] (.int (abo (AU x) l)):=by
 refine aj.of Bd.eP (by simp) rfl rfl ?_;refine aC.same [0,1,6,7] (fun i:Nat=>[(8,.int i)]) (fun i=>i<=l.length/\(l.take i).any (AU x)=false) (fun i=>l.length-i) 0 rfl (by decide) rfl (fun _=>rfl) ⟨by omega,by simp⟩ ⟨⟨_,rfl,rfl⟩,trivial⟩ ?_;refine⟨rfl,?_⟩;rintro i ⟨hi,hall⟩;refine⟨fun h3=>?_,fun h3=>?_⟩
 ·have hi':i<l.length:=by simpa using h3
  refine .mk (by simp only[Rw.rng] at *; omega) ?_;refine ah.pure (S.kX x (l.getD i default) d hx (hs.get i)) rfl ?_;refine⟨fun h4=>?_,fun h4=>?_⟩
  ·conv=>whnf
   refine ak.int ?_;rw[abo,if_pos (lZ hi' h4),LM hi' hall h4]
  ·conv=>whnf
   refine .mk (by simp only[okI] at *; omega) ?_;refine⟨i+1,⟨by omega,by rw[pK hi' hall]; exact h4⟩,by omega,⟨⟨_,rfl,rfl⟩,trivial⟩,?_,rfl⟩;repeat' (first|exact trivial|exact⟨_,rfl,rfl⟩|constructor)
 ·conv=>whnf
  refine ak.int ?_;have hi':l.length<=i:=by simpa using h3
  rw[List.take_of_length_le hi'] at hall;rw[abo,hall]; rfl
theorem S.LP(l:List Elem)(x:Elem)(d f:Bool)(hl:l.length<2^40)(hs:eH l)(hx:x.counts.length<2^40) :
  aj Tryz.prog 147 [.row 3 f (.elems l),.fn (146+4096) [.int x.value,.row 0 false (.ints x.counts),.bool d]] (.bool (l.any (AU x))):=by
 refine aj.of Bd.dR (by simp) rfl rfl ?_;refine ah.pure (S.TQ l x d f hl hs hx) rfl ?_;refine ak.bool ?_;unfold abo;cases h:l.any (AU x)
 ·simp
 ·simp
theorem S.nC(a b:Elem)(ha:a.counts.length<2^40)(hb:b.counts.length<2^40):aj Tryz.prog 74 [.dat (.elem a),.dat (.elem b)] (.bool (decide (a=b))):=by
 refine aj.of Bd.nC (by simp) rfl rfl ?_;refine ah.pure (S.iJ a b ha hb) rfl ?_;refine ak.bool ?_;rw[Bool.eq_iff_iff]; simp only[decide_eq_true_eq,beq_iff_eq];exact kU.symm
theorem ak.elem{e:Elem}{n ty:Nat}{h:Hz}(q:h.get n=some (.row ty 0 (.ints e.counts) [])):ak (.dat (.elem e)) (.agg [.int e.value,.own n]) h:=⟨by
 show T.sub (fun _=>True) h.au (iE e) (.agg [.int e.value,.own n]);simp only[iE,T.sub,T.dK,and_true];refine⟨trivial,trivial,trivial,?_,by decide,ty,?_⟩
 ·rw[iw]; intro t ht; obtain⟨x,_,rfl⟩:=List.mem_map.1 ht; rfl
 ·have:=aP q; simpa [OV.aA,Rw.aT,V.aT] using this⟩
theorem S.kJ(e:Elem)(d:Bool)(he:e.counts.length<2^40):aj Tryz.prog 148 [.agg [.int e.value,.row 0 false (.ints e.counts),.bool d]] (.dat (.elem e)):=by
 refine aj.of Bd.kJ (by simp) rfl rfl ?_;refine .mk (by simp only[mJ,nP,Rw.len]; omega) ?_;exact ak.elem (ty:=3) rfl
theorem ah.lend{P:Program}{dr:Bool}{f:FuncId}{args args':List V}{res:V}{h:Hz}{n:Nat}{K:V->Hz->Prop}{KW:Nat->V->Hz->Prop}(S:aj P f args' res)(hs:T.dK (fun _=>True) h.au (V.aT args') (V.aT args))(hh:res.aG.hard=true)(hr:res.free=true)(hK:K res h):ah P dr none f args h n K KW :=
 ⟨.inl (AX.lend S hs hh (fun _ e=>by cases e) ⟨res,h,rfl,rfl,fun _=>⟨rfl,V.og res hr⟩,hK⟩)⟩
theorem D5(l:List Elem):T.bZ (l.map iE)=true:=by
 rw[iw]; intro t ht; obtain⟨x,_,rfl⟩:=List.mem_map.1 ht; rfl
theorem dQ.of_eq{a b:List T}(h:a=b):dQ a b:=by subst h; exact .refl _
theorem ah.afg{P:Program}{dr b:Bool}{f:FuncId}{args args':List V}{res:V}{h:Hz}{n:Nat}{K:V->Hz->Prop}{KW:Nat->V->Hz->Prop}(S:b=true->aj P f args' res)(hs:b=true->T.dK (fun _=>True) h.au (V.aT args') (V.aT args))(hh:res.aG.hard=true)(hr:res.free=true)(hK:K res h):ah P dr (some b) f args h n K KW :=
 ⟨.inl (.inl ⟨res,fun e=>AX.lend (S e) (hs e) hh (fun _ e=>by cases e) ⟨rfl,rfl⟩,hr,hK⟩)⟩
abbrev dF(l:List Elem):OV:=.row 31 3 (.elems l) []
theorem Qj{h:Hz}{j:Nat}{l:List Elem}{Z:Nat->Prop}(hz:Z j)(q:h.get j=some (dF l)):T.sub Z h.au (V.row 3 false (.elems l)).aG (V.own j).aG:=by
 show T.sub Z h.au (.sl 3 false (l.map iE)) (.own j);simp only[T.sub];refine⟨trivial,hz,D5 l,by decide,31,?_⟩;have:=aP q; simpa [OV.aA,Rw.aT,V.aT] using this
theorem ak.adG{h:Hz}{j:Nat}{l:List Elem}(q:h.get j=some (dF l)):ak (.row 3 false (.elems l)) (.own j) h:=⟨Qj trivial q⟩
abbrev h1(l:List Elem):Hz:=[(0,some (dF l))]
theorem YW{l:List Elem}{n:Nat}(hn:0<n):Hz.get n (h1 l)=none:=by
 show(bif Nat.beq 0 n then some (dF l) else none)=none;rw[afh,if_neg (by omega)]
def qI(out:List Elem)(x:Elem):List Elem:=if(out.any fun b=>tV b x)=true then out else out++[x]
theorem Jv{α β:Type}(f:β->α->β)(b:β){l:List α}{i:Nat}(d:α)(h:i<l.length):(l.take (i+1)).foldl f b=f ((l.take i).foldl f b) (l.getD i d):=by
 rw[List.take_add_one,List.foldl_append]; simp[h]
theorem WM{l:List Elem}{e:Elem}:(qI l e).length<=l.length+1:=by
 unfold qI; split
 ·omega
 ·simp
theorem YV: ∀ (l acc:List Elem),(l.foldl qI acc).length<=acc.length+l.length:=by
 intro l;induction l with
 |nil=>intro acc; simp
 |cons x l ih=>intro acc; simp only[List.foldl_cons,List.length_cons]; have:=ih (qI acc x); have:=WM (l:=acc) (e:=x); omega
theorem YX: ∀ (l acc:List Elem) (x:Elem),x∈l.foldl qI acc->x∈acc\/x∈l:=by
 intro l;induction l with
 |nil=>intro acc x h; exact .inl h
 |cons y l ih =>
  intro acc x h;simp only[List.foldl_cons] at h;rcases ih _ _ h with h|h
  ·unfold qI at h; split at h
   ·exact .inl h
   ·simp only[List.mem_append,List.mem_singleton] at h;rcases h with h|h
    ·exact .inl h
    ·exact .inr (by simp[h])
  ·exact .inr (by simp[h])
theorem Jy{l:List Elem}(h:eH l)(i:Nat):eH ((l.take i).foldl qI []):=fun x hx=>by
 rcases YX _ _ _ hx with h'|h'
 ·cases h'
 ·exact h x (List.mem_of_mem_take h')
def TN(l:List Elem):Prop:= ∀ e∈l,e.counts.length<2^30
theorem TN.e{l:List Elem}(h:TN l):eH l:=fun e he=>by have:=h e he; omega
def uH(l:List Elem):Nat->List Elem
 |0=>[]
 |n+1=>if n=0\/l.getD n default≠l.getD (n-1) default then uH l n++[l.getD n default] else uH l n
theorem IY(l:List Elem): ∀ n,(uH l n).length<=n:=by
 intro n;induction n with
 |zero=>exact Nat.le_refl _
 |succ n ih =>
  simp only[uH]; split
  ·simp; omega
  ·omega
theorem abp{l:List Elem}{x:Elem}: ∀ {n},x∈uH l n->n<=l.length->x∈l:=by
 intro n;induction n with
 |zero=>intro h; cases h
 |succ n ih =>
  intro h hn;simp only[uH] at h;split at h
  ·rcases List.mem_append.1 h with h|h
   ·exact ih h (by omega)
   ·rw[List.mem_singleton] at h; subst h;simp[show n<l.length by omega]
  ·exact ih h (by omega)
abbrev zeroV:V:=.agg [.int 0,.row 0 true .nil]
def mid(l:List Elem)(j:Nat):List Elem:=uH l j++l.drop (uH l j).length
theorem abq{l:List Elem}{j:Nat}(h:j<=l.length):(mid l j).length=l.length:=by
 have:=IY l j;simp[mid]; omega
theorem Vo{l:List Elem}{j i:Nat}(h:(uH l j).length<=i):(mid l j).getD i default=l.getD i default:=by
 unfold mid;rw[List.getD_eq_getElem?_getD,List.getElem?_append_right h,List.getElem?_drop,List.getD_eq_getElem?_getD]
 congr 2; omega
theorem abr{l:List Elem}{j:Nat}(hj:j<l.length)(h:j=0\/l.getD j default≠l.getD (j-1) default):(mid l j).set (uH l j).length (l.getD j default)=mid l (j+1):=by
 have hl:=IY l j;have e:uH l (j+1)=uH l j++[l.getD j default]:=by simp only[uH]; rw[if_pos h]
 unfold mid;rw[e,List.set_append_right _ _ (Nat.le_refl _),Nat.sub_self,dA default (show(uH l j).length<l.length by omega)];simp
theorem Qm{l:List Elem}{j:Nat}(h0:j≠0)(h:l.getD j default=l.getD (j-1) default):uH l (j+1)=uH l j:=by
 simp only[uH]; rw[if_neg]; intro q; rcases q with q|q
 ·exact h0 q
 ·exact q h
theorem JB{l:List Elem}{k:Nat}(hk:k<=l.length)(h: ∀ i,0<i->i<k->l.getD i default≠l.getD (i-1) default):uH l k=l.take k:=by
 induction k with
 |zero=>rfl
 |succ k ih =>
  simp only[uH];rw[if_pos,ih (by omega) fun i h1 h2=>h i h1 (by omega),List.take_add_one]
  ·simp[show k<l.length by omega]
  ·by_cases h0:k=0
   ·exact .inl h0
   ·exact .inr (h k (by omega) (by omega))
theorem Jz(l:List Elem)(m nx:Nat):(OV.row 31 3 (.elems l) (List.replicate m zeroV)).good nx=true:=by
 have h1:ER 3 (List.replicate m zeroV)=true:=by
  induction m with
  |zero=>rfl
  |succ m ih=>simp only[List.replicate_succ,ER,ih,Bool.and_true]; rfl
 have h2:T.P5 nx (V.aT (List.replicate m zeroV))=true:=by
  clear h1;induction m with
  |zero=>rfl
  |succ m ih=>simp only[List.replicate_succ,V.aT,T.P5,ih,Bool.and_true]; rfl
 simp only[OV.good,h1,h2]; rfl
theorem EK(l:List Elem)(m:Nat):(OV.row 31 3 (.elems l) (List.replicate m zeroV)).Dp=true:=by
 simp only[OV.Dp];induction m with
 |zero=>rfl
 |succ m ih=>simp only[List.replicate_succ,V.bZ,ih,Bool.and_true]; rfl
def uI(l:List Elem):List Elem:=uH l l.length
theorem S.Qn(l:List Elem)(n:Nat)(hl:l.length<2^30)(hs:eH l) :
  aQ Tryz.prog 73 (V.aT [.own 0,.fn 74 []]) (h1 l).au n
   (fun t hp=>(uI l=l/\t= .own 0/\hp=(h1 l).au)\/(∃ m,t= .pq 0 0 (uI l).length/\hp=Hz.au [(0,some (.row 31 3 (.elems (uI l)) (List.replicate m zeroV)))])):=by
 refine qH.of (nx:=1) Bd.dX (by simp) ⟨_,_,.inr ⟨0,rfl,rfl⟩⟩ rfl rfl ?_;refine⟨fun h1=>?_,fun h1=>?_⟩
 ·conv=>whnf
  have hc:uI l=l:=by
   have h2:l.length<2:=by simp at h1; omega
   rw[uI,JB (Nat.le_refl _) (fun i h3 h4=>by omega),List.take_length]
  exact jv.one (c:=0) (j:=0) (o:=dF l) (t:=.own 0) rfl rfl rfl (fun _=>rfl) (.inl rfl) rfl (.eq rfl) (.inl ⟨hc,rfl,rfl⟩)
 ·have h2:2<=l.length:=by simp at h1; omega
  refine aC.same [0,1] (fun i:Nat=>[(5,.int i)]) (fun i=>1<=i/\i<=l.length/\ ∀ k,0<k->k<i->l.getD k default≠l.getD (k-1) default) (fun i=>l.length-i) 1 rfl (by decide) rfl (fun _=>rfl) ⟨by omega,by omega,fun k h3 h4=>by omega⟩ ⟨⟨_,rfl,rfl⟩,trivial⟩ ?_;refine⟨rfl,?_⟩;rintro k ⟨hk0,hk,hne⟩;have e1:((k:Int)-1).toNat=k-1:=by omega
  refine⟨fun h3=>?_,fun h3=>?_⟩
  ·have hk':k<l.length:=by simpa using h3
   repeat(refine VC.mk (by simp only[okI,Rw.rng]; omega) ?_)
   refine ah.pure (S.nC _ _ (hs.get _) (hs.get _)) rfl ?_;refine⟨fun h4=>?_,fun h4=>?_⟩
   ·have heq:l.getD k default=l.getD (k-1) default:=by
     rw[e1] at h4; simpa using h4
    have hdk:uH l k=l.take k:=JB hk hne;have adL:uH l (k+1)=l.take k:=by rw[Qm (by omega) heq,hdk]
    refine .mk (by simp only[Rw.rJ]; omega) ?_;refine aC.objs 1 [0,1,6] (fun j:Nat=>[(7,.int j),(5,.int (uH l (k+j)).length)]) (fun j=>[(0,dF (mid l (k+j)))]) (fun j=>1<=j/\k+j<=l.length/\(uH l (k+j)).length+1<=k+j) (fun j=>l.length-j) 1 [0] rfl (by decide) (fun _=>rfl) ⟨by omega,by omega,?_⟩ ?_ ?_ ?_
    ·rw[adL]; simp; omega
    ·refine⟨⟨_,rfl,.eq rfl⟩,⟨_,rfl,.eq ?_⟩,trivial⟩;rw[adL];show T.int (((l.take k).length:Nat):Int)=T.int (k:Int);simp[Nat.min_eq_left hk]
    ·refine⟨⟨rfl,(fun _=>rfl),rfl,rfl,rfl,_,rfl,rfl,rfl,dQ.of_eq ?_⟩,trivial⟩
     have:mid l (k+1)=l:=by unfold mid; rw[adL]; simp[Nat.min_eq_left hk]
     rw[this]
    refine⟨(sR rfl),rfl,?_⟩;rintro j ⟨hj0,hj,hdl⟩;have hml:=abq hj;have e2:((j:Int)-1).toNat=j-1:=by omega
    have hsm:eH (mid l (k+j)):=fun x hx=>by
     unfold mid at hx;rcases List.mem_append.1 hx with hx|hx
     ·exact hs x (abp hx hj)
     ·exact hs x (List.mem_of_mem_drop hx)
    refine⟨fun h5=>?_,fun h5=>?_⟩
    ·have hj':k+j<l.length:=by
      have h6:j<l.length-k:=by
       have:(j:Int)<(((Rw.elems l).len-k:Nat):Int):=by simpa using h5
       have e3:(Rw.elems l).len=l.length:=rfl;rw[e3] at this;omega
      omega
     have g1:=Vo (l:=l) (j:=k+j) (i:=k+j) (by omega);have g2:=Vo (l:=l) (j:=k+j) (i:=k+(j-1)) (by omega);repeat(refine VC.mk (by first|(simp only[okI]; omega)|(show _/\_<(((l.length-k:Nat)):Int); omega)|(simp only[Rw.rng,hml,Int.toNat_natCast,e2]; omega)|(show(0:Int)<=_/\_<((mid l (k+j)).length:Int); rw[hml]; simp only[Int.toNat_natCast,e2]; omega)) ?_)
     refine ah.pure (S.nC _ _ (hsm.get _) (hsm.get _)) rfl ?_;simp only[Int.toNat_natCast,e2,g1,g2];conv=>whnf
     have e4:k+(j-1)=k+j-1:=by omega
     refine⟨fun h6=>?_,fun h6=>?_⟩
     ·have hne':l.getD (k+j) default≠l.getD (k+j-1) default:=by
       rw[e4] at h6; simpa using h6
      have hst:=abr hj' (.inr hne');have hd1:uH l (k+j+1)=uH l (k+j)++[l.getD (k+j) default]:=by simp only[uH]; rw[if_pos (.inr hne')]
      repeat(refine VC.mk (by first|(simp only[okI]; omega)|(show _/\_<(((l.length-k:Nat)):Int); omega)|(simp only[Rw.rng,hml,Int.toNat_natCast]; omega)|(show(0:Int)<=_/\_<((mid l (k+j)).length:Int); rw[hml]; simp only[Int.toNat_natCast]; omega)) ?_)
      refine⟨j+1,[0],⟨by omega,by omega,?_⟩,by omega,⟨⟨_,rfl,.eq rfl⟩,⟨_,rfl,.eq ?_⟩,trivial⟩,(sR rfl),⟨rfl,(fun _=>rfl),rfl,rfl,rfl,_,rfl,rfl,rfl,dQ.of_eq ?_⟩,trivial⟩
      ·show(uH l (k+j+1)).length+1<=k+(j+1);rw[hd1]; simp; omega
      ·show T.int (((uH l (k+j+1)).length:Nat):Int)=T.int (((uH l (k+j)).length:Int)+1);rw[hd1]; simp
      ·show(dF (mid l (k+j+1))).aA.l=(OV.row 31 3 (.elems ((mid l (k+j)).set (((uH l (k+j)).length:Int)).toNat ((mid l (k+j)).getD ((k:Int).toNat+(j:Int).toNat) default))) []).aA.l;simp only[Int.toNat_natCast,g1,hst]
     ·have heq':l.getD (k+j) default=l.getD (k+j-1) default:=by
       rw[e4] at h6; simpa using h6
      have hd1:uH l (k+j+1)=uH l (k+j):=Qm (by omega) heq';refine .mk (by simp only[okI] at *; omega) ?_;refine⟨j+1,[0],⟨by omega,by omega,?_⟩,by omega,⟨⟨_,rfl,.eq rfl⟩,⟨_,rfl,.eq ?_⟩,trivial⟩,(sR rfl),⟨rfl,(fun _=>rfl),rfl,rfl,rfl,_,rfl,rfl,rfl,dQ.of_eq ?_⟩,trivial⟩
      ·show(uH l (k+j+1)).length+1<=k+(j+1);rw[hd1]; omega
      ·show T.int (((uH l (k+j+1)).length:Nat):Int)=T.int ((uH l (k+j)).length:Int);rw[hd1]
      ·show(dF (mid l (k+j+1))).aA.l=(dF (mid l (k+j))).aA.l;unfold mid; rw[hd1]
    ·have hj':k+j=l.length:=by
      have h6: ¬ (j:Int)<(((Rw.elems l).len-k:Nat):Int):=by simpa using h5
      have e3:(Rw.elems l).len=l.length:=rfl;rw[e3] at h6;omega
     have ahb:(uH l (k+j)).length<=l.length:=by have:=IY l (k+j); omega
     repeat(refine VC.mk (by first|(simp only[Rw.rJ,hml]; omega)|(refine⟨?_,rfl⟩; show((uH l (k+j)).length:Int).toNat<=(mid l (k+j)).length; rw[hml,Int.toNat_natCast]; omega)|(show(0:Int)<=((uH l (k+j)).length:Int)/\((uH l (k+j)).length:Int)<=(((mid l (k+j)).take ((uH l (k+j)).length:Int).toNat).length:Int); rw[List.length_take,hml,Int.toNat_natCast]; omega)|(show _<=(mid l (k+j)).length/\(mid l (k+j)).length=(mid l (k+j)).length; rw[hml]; simp only[Int.toNat_natCast]; omega)|(show(0:Int)<=_/\_<=(((mid l (k+j)).take _).length:Int); rw[List.length_take,hml]; simp only[Int.toNat_natCast]; omega)) ?_)
     have htk:(mid l (k+j)).take ((uH l (k+j)).length:Int).toNat=uI l:=by
      rw[Int.toNat_natCast]; unfold mid; rw[List.take_left,hj']; rfl
     have hcl:((uH l (k+j)).length:Int).toNat=(uI l).length:=by rw[Int.toNat_natCast,hj']; rfl
     refine jv.one (c:=0) (j:=0) (o:=.row 31 3 (.elems (uI l)) (List.replicate ((mid l (k+j)).length-((uH l (k+j)).length:Int).toNat) zeroV)) (t:=.pq 0 0 (uI l).length) ?_ (Jz _ _ _) (EK _ _) (fun _=>rfl) (.inl rfl) rfl (.eq ?_) (.inr ⟨_,rfl,rfl⟩)
     ·rw[<- htk]; rfl
     ·rw[<- hcl]; rfl
   ·conv=>whnf
    refine .mk (by simp only[okI] at *; omega) ?_;refine⟨k+1,⟨by omega,by omega,fun i h5 h6=>?_⟩,by omega,⟨⟨_,rfl,rfl⟩,trivial⟩,?_,rfl⟩
    ·by_cases e:i=k
     ·subst e; rw[e1] at h4; simpa using h4
     ·exact hne i h5 (by omega)
    ·repeat' (first|exact trivial|exact⟨_,rfl,rfl⟩|constructor)
  ·conv=>whnf
   have hk':l.length<=k:=by simpa using h3
   have hc:uI l=l:=by
    rw[uI,JB (Nat.le_refl _) (fun i h3 h4=>hne i h3 (by omega)),List.take_length]
   exact jv.one (c:=0) (j:=0) (o:=dF l) (t:=.own 0) rfl rfl rfl (fun _=>rfl) (.inl rfl) rfl (.eq rfl) (.inl ⟨hc,rfl,rfl⟩)
theorem S.WO:aj Tryz.prog 140 [.raw (.lit (.int .u64 0))] (.int 0):=by
 refine aj.of Bd.vg (by simp) rfl rfl ?_;refine Fork.mk (fun q=>absurd (q.symm.trans ((rfl:decide ((4294967296:Int)<=0)=false))).symm Bool.false_ne_true) (fun _=>?_);refine Fork.mk (fun q=>absurd (q.symm.trans ((rfl:decide ((65536:Int)<=0)=false))).symm Bool.false_ne_true) (fun _=>?_);refine Fork.mk (fun q=>absurd (q.symm.trans ((rfl:decide ((256:Int)<=0)=false))).symm Bool.false_ne_true) (fun _=>?_);refine .mk (by omega) ?_;repeat(refine VC.mk (by constructor<;>decide) ?_)
 exact ak.int (by decide)
theorem S.bitsLen:aj Tryz.prog 104 [.raw (.lit (.int .u64 0))] (.int 0):=by
 refine aj.of Bd.yC (by simp) rfl rfl ?_;refine Fork.mk (fun q=>absurd (q.symm.trans ((rfl:false=false))).symm Bool.false_ne_true) (fun _=>?_);refine ah.pure (S.WO) rfl ?_;exact ak.int rfl
theorem S.TR(n:Nat):aQ Tryz.prog 131 (V.aT [.own 0,.int 0,.int 0,.fn 72 []]) (h1 []).au n (fun t hp=>t= .dn []/\hp=(h1 []).au):=by
 refine qH.of (nx:=1) (h0:=h1 []) Bd.dD (by simp) ⟨_,_,rfl,rfl⟩ rfl rfl ?_;refine .mk (by simp only[okI] at *; omega) ?_;refine aC.times 1 rfl ?_;refine Fork.mk (fun q=>absurd (q.symm.trans ((rfl:decide ((0:Int)+1<0)=false))).symm Bool.false_ne_true) (fun _=>?_);exact jv.one (c:=0) (j:=0) (o:=dF []) (t:=.dn []) rfl rfl rfl (fun _=>rfl) (.inl rfl) trivial (.eq rfl) ⟨rfl,rfl⟩
theorem S.agw(n:Nat):aQ Tryz.prog 103 (V.aT [.own 0,.int 0,.int 0,.int 0,.fn 72 []]) (h1 []).au n (fun t hp=>t= .dn []/\hp=(h1 []).au):=by
 refine qH.of (nx:=1) (h0:=h1 []) Bd.gQ (by simp) ⟨_,_,rfl,rfl⟩ rfl rfl ?_;refine aC.times 1 rfl ?_;refine .mk (by simp only[okI] at *; omega) ?_;refine Fork.mk (fun _=>?_) (fun q=>absurd (q.symm.trans ((rfl:decide ((0:Int)-0<=12)=true))) Bool.false_ne_true);refine ah.heap (S.TR _) (fun t hp ⟨e1,e2⟩=>⟨.dn [],h1 [],e1,e2,?_⟩);exact jv.one (c:=0) (j:=0) (o:=dF []) (t:=.dn []) rfl rfl rfl (fun _=>rfl) (.inl rfl) trivial (.eq rfl) ⟨rfl,rfl⟩
theorem S.abt(n:Nat):aQ Tryz.prog 71 (V.aT [.own 0,.fn 72 []]) (h1 []).au n (fun t hp=>t= .dn []/\hp=(h1 []).au):=by
 refine qH.of (nx:=1) (h0:=h1 []) Bd.dw (by simp) ⟨_,_,rfl,rfl⟩ rfl rfl ?_;refine .mk (by simp only[List.length_nil]; omega) ?_;refine ah.pure (S.bitsLen) rfl ?_;refine ah.heap (S.agw _) (fun t hp ⟨e1,e2⟩=>⟨.dn [],h1 [],e1,e2,?_⟩);exact jv.one (c:=0) (j:=0) (o:=dF []) (t:=.dn []) rfl rfl rfl (fun _=>rfl) (.inl rfl) trivial (.eq rfl) ⟨rfl,rfl⟩
theorem WQ: ∀ a b:List Int,cmpL b a= -cmpL a b:=by
 intro a;induction a with
 |nil=>intro b; cases b<;>rfl
 |cons x a ih =>
  intro b;cases b with
  |nil=>rfl
  |cons y b =>
   simp only[cmpL];by_cases h1:x<y
   ·have h2: ¬ y<x:=by omega
    simp[h1,h2]
   ·by_cases h2:y<x
    ·simp[h1,h2]
    ·simp[h1,h2,ih]
theorem qJ(a b:Elem):jY b a= -jY a b:=by
 simp only[jY];by_cases h1:a.value<b.value
 ·have h2: ¬ b.value<a.value:=by omega
  simp[h1,h2]
 ·by_cases h2:b.value<a.value
  ·simp[h1,h2]
  ·simp[h1,h2,WQ a.counts b.counts]
theorem TS: ∀ {a b c:List Int},cmpL a b<0->cmpL b c<0->cmpL a c<0:=by
 intro a;induction a with
 |nil =>
  intro b c h1 h2;cases b with
  |nil=>simp[cmpL] at h1
  |cons y b=>cases c with
   |nil=>simp[cmpL] at h2
   |cons z c=>simp[cmpL]
 |cons x a ih =>
  intro b c h1 h2;cases b with
  |nil=>simp[cmpL] at h1
  |cons y b=>cases c with
   |nil=>simp[cmpL] at h2
   |cons z c =>
    simp only[cmpL] at h1 h2 ⊢;by_cases a1:x<y
    ·by_cases a2:y<z
     ·rw[if_pos (by omega)]; omega
     ·by_cases a3:z<y
      ·simp[a2,a3] at h2
      ·rw[if_pos (by omega)]; omega
    ·by_cases a4:y<x
     ·simp[a1,a4] at h1
     ·simp only[a1,a4,if_false] at h1;have e:x=y:=by omega
      subst e;by_cases a2:x<z
      ·simp[a2]
      ·by_cases a3:z<x
       ·simp[a2,a3] at h2
       ·simp only[a2,a3,if_false] at h2 ⊢;exact ih h1 h2
theorem zK{a b c:Elem}(h1:jY a b<0)(h2:jY b c<0):jY a c<0:=by
 simp only[jY] at h1 h2 ⊢;by_cases a1:a.value<b.value
 ·by_cases a2:b.value<c.value
  ·rw[if_pos (by omega)]; omega
  ·by_cases a3:c.value<b.value
   ·simp[a2,a3] at h2
   ·rw[if_pos (by omega)]; omega
 ·by_cases a4:b.value<a.value
  ·simp[a1,a4] at h1
  ·simp only[a1,a4,if_false] at h1;by_cases a2:b.value<c.value
   ·rw[if_pos (by omega)]; omega
   ·by_cases a3:c.value<b.value
    ·simp[a2,a3] at h2
    ·simp only[a2,a3,if_false] at h2;rw[if_neg (by omega),if_neg (by omega)];exact TS h1 h2
theorem Dq{a b c:Elem}(h1: ¬ jY b a<0)(h2: ¬ jY c b<0): ¬ jY c a<0:=by
 rw[qJ a b] at h1;rw[qJ b c] at h2;rw[qJ a c];by_cases e1:jY a b=0
 ·rw[kU] at e1; subst e1; exact h2
 ·by_cases e2:jY b c=0
  ·rw[kU] at e2; subst e2; exact h1
  ·have:=zK (a:=a) (b:=b) (c:=c) (by omega) (by omega);omega
def ES(l:List Elem):Prop:=l.Pairwise fun a b=> ¬ jY b a<0
def TT(e:Elem):List Elem->List Elem
 |[]=>[e]
 |x::r=>if jY x e<0 then x::TT e r else e::x::r
def rQ(l:List Elem):List Elem:=l.foldr TT []
theorem MR(e:Elem): ∀ l,(TT e l).Perm (e::l):=by
 intro l;induction l with
 |nil=>exact .refl _
 |cons x r ih =>
  simp only[TT]; split
  ·exact((ih.cons x).trans (.swap e x r))
  ·exact .refl _
theorem wL: ∀ l,(rQ l).Perm l:=by
 intro l;induction l with
 |nil=>exact .refl _
 |cons x r ih=>exact(MR x _).trans (ih.cons x)
theorem YZ(e:Elem): ∀ l,ES l->ES (TT e l):=by
 intro l;induction l with
 |nil=>intro _; simp[ES,TT]
 |cons x r ih =>
  intro h;have h':=h;simp only[ES,List.pairwise_cons] at h;simp only[TT];split
  ·rename_i hlt;simp only[ES,List.pairwise_cons];refine⟨fun y hy=>?_,ih h.2⟩;rcases List.mem_cons.1 ((MR e r).mem_iff.1 hy) with rfl|hy
   ·rw[qJ]; omega
   ·exact h.1 y hy
  ·rename_i hge;simp only[ES,List.pairwise_cons];refine⟨fun y hy=>?_,h⟩;rcases List.mem_cons.1 hy with rfl|hy
   ·exact hge
   ·exact Dq hge (h.1 y hy)
theorem CG: ∀ l,ES (rQ l):=by
 intro l;induction l with
 |nil=>simp[ES,rQ]
 |cons x r ih=>exact YZ x _ ih
theorem TU: ∀ {a b:List Elem},a.Perm b->ES a->ES b->a=b:=by
 intro a;induction a with
 |nil=>intro b hp _ _; exact hp.nil_eq
 |cons x a ih =>
  intro b hp ha hb;cases b with
  |nil=>exact absurd hp.symm (by simp)
  |cons y b =>
   have h1:=ha; have h2:=hb;simp only[ES,List.pairwise_cons] at h1 h2;have hxy:x=y:=by
    by_cases e:x=y
    ·exact e
    ·have hx:x∈b:=by
      rcases List.mem_cons.1 (hp.mem_iff.1 (by simp:x∈x::a)) with h|h
      ·exact absurd h e
      ·exact h
     have hy:y∈a:=by
      rcases List.mem_cons.1 (hp.mem_iff.2 (by simp:y∈y::b)) with h|h
      ·exact absurd h.symm e
      ·exact h
     have g1:=h1.1 y hy;have g2:=h2.1 x hx;rw[qJ] at g1
     have:jY x y=0:=by omega
     exact kU.1 this
   subst hxy;rw[ih (List.Perm.cons_inv hp) h1.2 h2.2]
def Dt:T->Elem
 | .agg [.lit (.int _ v),.sl _ _ l]=>⟨v,l.map yD⟩
 |_=>default
theorem IZ(e:Elem):Dt (iE e)=e:=by
 obtain⟨v,c⟩:=e;simp only[iE,Dt]
 congr 1
 rw[List.map_map];conv=>rhs; rw[<- List.map_id c]
 exact List.map_congr_left fun x _=>rfl
theorem S.agx{x y:Elem}(hx:x.counts.length<2^40)(hy:y.counts.length<2^40):wM Tryz.prog 72 [iE x,iE y] (.int (jY x y)):=S.iJ x y hx hy
theorem Y0(l:List Elem):(h1 l).au=upd no 0 (some ⟨31,3,l.map iE⟩):=by
 show Hz.au ((0,some (dF l))::[])=_;rw[bP];simp[dF,OV.aA,Rw.aT,V.aT]; rfl
theorem adM: ∀ w,(isAgg 31).run Tryz.prog w= .ok true w:=fun w=>tX (k:=3) (by kernel_rfl)
theorem afi: ∀ w,(Go.sizeOf 31).run Tryz.prog w= .ok 2 w:=fun w=>gJ (k:=3) (by kernel_rfl)
theorem S.SortFunc(l:List Elem)(n:Nat)(hl:l.length<2^30)(hs:eH l) :
  aQ Tryz.prog 71 (V.aT [.own 0,.fn 72 []]) (h1 l).au n (fun t hp=>t= .dn []/\hp=(h1 (rQ l)).au):=by
 by_cases hne:l=[]
 ·subst hne;exact S.abt n
 ·have hx: ∀ t∈l.map iE,∃ e∈l,t=iE e:=fun t ht=>by obtain⟨e,he,rfl⟩:=List.mem_map.1 ht; exact⟨e,he,rfl⟩
  have H:=aQ.sort (n:=n) Tryz.laySort 2 (by decide) adM afi (by exact Bd.dw.cl) (g:=72) (by decide) (by exact Bd.iJ.cl) (l:=l.map iE) (by simpa using hne)
   (fun t ht=>by obtain⟨e,_,rfl⟩:=hx t ht; rfl) (D5 l) (by simp; omega) (fun x y=>jY (Dt x) (Dt y))
   (fun t ht=>by rw[kU.2 rfl]; decide)
   (fun x _ y _ z _ h1 h2=>zK h1 h2)
   (fun x _ y _ z _ h1 h2=>Dq h2 h1)
   (fun x hx1 y hy1=>by
    obtain⟨a,ha,rfl⟩:=hx x hx1;obtain⟨b,hb,rfl⟩:=hx y hy1
    simp only[IZ]; exact S.agx (hs a ha) (hs b hb))
   (by decide) ⟨(rQ l).map iE,(wL l).map iE,by
    rw[List.pairwise_map]; simp only[IZ]; exact CG l⟩ (h:=(h1 l).au) (i:=0) (ty:=31) (by rw[Y0]; rfl)
  refine aQ.mono H ?_;rintro t hp ⟨rfl,l',hp',hpw,rfl⟩;refine⟨rfl,?_⟩;have hl':l'=(l'.map Dt).map iE:=by
   rw[List.map_map];conv=>lhs; rw[<- List.map_id l']
   refine List.map_congr_left fun t ht=>?_
   obtain⟨e,_,rfl⟩:=hx t (hp'.mem_iff.1 ht);simp[IZ]
  have hperm:(l'.map Dt).Perm l:=by
   have:=hp'.map Dt;rw[List.map_map] at this;have e:l.map (Dt ∘ iE)=l:=by
    conv=>rhs; rw[<- List.map_id l]
    exact List.map_congr_left fun e _=>IZ e
   rw[e] at this; exact this
  have hsrt:ES (l'.map Dt):=by
   unfold ES; rw[List.pairwise_map]; exact hpw
  have heq:l'.map Dt=rQ l:=TU (hperm.trans (wL l).symm) hsrt (CG l);rw[Y0,Y0];rw[hl',heq];funext j;simp only[upd]; split<;>rfl
def xX(l:List Elem):List Elem:=uI (rQ l)
theorem MS(l:List Elem):(rQ l).length=l.length:=(wL l).length_eq
theorem Qo{l:List Elem}(h:eH l):eH (rQ l):=fun e he=>h e ((wL l).mem_iff.1 he)
theorem S.tH(l:List Elem)(n:Nat)(hl:l.length<2^30)(hs:eH l) :
  aQ Tryz.prog 37 (V.aT [.own 0]) (h1 l).au n
   (fun t hp=>(t= .own 0/\hp=(h1 (xX l)).au)\/(∃ m,t= .pq 0 0 (xX l).length/\hp=Hz.au [(0,some (.row 31 3 (.elems (xX l)) (List.replicate m zeroV)))])):=by
 refine qH.of (nx:=1) Bd.tH (by simp) ⟨_,_,.inl ⟨rfl,rfl⟩⟩ rfl rfl ?_;refine ah.heap (S.SortFunc l _ hl hs) ?_;rintro t hp ⟨rfl,rfl⟩;refine⟨.dn [],h1 (rQ l),rfl,rfl,?_⟩;refine ah.heap (S.Qn (rQ l) _ (by rw[MS]; exact hl) (Qo hs)) ?_;rintro t hp (⟨hc,rfl,rfl⟩|⟨m,rfl,rfl⟩)
 ·refine⟨.own 0,h1 (rQ l),rfl,rfl,?_⟩;refine jv.one (c:=0) (j:=0) (o:=dF (rQ l)) (t:=.own 0) rfl rfl rfl (fun _=>rfl) (.inl rfl) rfl (.eq rfl) (.inl ⟨rfl,?_⟩);rw[xX,hc]
 ·refine⟨.pq 0 0 (uI (rQ l)).length,[(0,some (.row 31 3 (.elems (uI (rQ l))) (List.replicate m zeroV)))],rfl,rfl,?_⟩;exact jv.one (c:=0) (j:=0) (o:=.row 31 3 (.elems (uI (rQ l))) (List.replicate m zeroV)) (t:=.pq 0 0 (uI (rQ l)).length) rfl (Jz _ _ _) (EK _ _) (fun _=>rfl) (.inl rfl) rfl (.eq rfl) (.inr ⟨m,rfl,rfl⟩)
def wO(l:List Elem)(x:Elem):Bool:= !(l.any (AU x))
def bW(l:List Elem):List Elem:=xX (l.filter (wO l))
theorem Qp{l:List Elem}{p:Elem->Bool}{i:Nat}(h:i<l.length):(l.take (i+1)).filter p=(l.take i).filter p++(if p (l.getD i default)=true then [l.getD i default] else []):=by
 rw[List.take_add_one,List.filter_append]
 congr 1
 simp only[List.getElem?_eq_getElem h,Option.toList_some,List.getD_eq_getElem?_getD,Option.getD_some,List.filter_cons,List.filter_nil]
theorem ak.abg{h:Hz}{j m:Nat}{l:List Elem}(q:h.get j=some (.row 31 3 (.elems l) (List.replicate m zeroV))):ak (.row 3 false (.elems l)) (.pq j 0 l.length) h:=⟨by
 show T.sub (fun _=>True) h.au (.sl 3 false (l.map iE)) (.pq j 0 l.length);simp only[T.sub];refine⟨trivial,trivial,D5 l,by decide,31,l.map iE++V.aT (List.replicate m zeroV),?_,by simp,by simp⟩
 exact aP q⟩
theorem S.kY(l:List Elem)(f:Bool)(hl:l.length<2^29)(hs:eH l):aj Tryz.prog 118 [.row 3 f (.elems l)] (.row 3 false (.elems (bW l))):=by
 refine aj.of Bd.kY (by simp) rfl rfl ?_;refine aC.nil 3 31 3 (by rfl) rfl rfl rfl ?_;refine aC.objs 1 [0,8,9] (fun i:Nat=>[(10,.int i),(3,.own 0)]) (fun i=>[(0,dF ((l.take i).filter (wO l)))]) (fun i=>i<=l.length) (fun i=>l.length-i) 0 [5] rfl (by decide) (fun _=>rfl) (Nat.zero_le _) ?_ ?_ ?_
 ·exact(sR rfl)
 ·exact⟨iQ rfl rfl,trivial⟩
 refine⟨(sR rfl),rfl,?_⟩;rintro i hi;have hfl:((l.take i).filter (wO l)).length<=i:=by
  have:=List.length_filter_le (wO l) (l.take i);simp at this; omega
 refine⟨fun h3=>?_,fun h3=>?_⟩
 ·have hi':i<l.length:=by simpa using h3
  have hstep:=Qp (p:=wO l) hi';refine .mk (by simp only[Rw.rng] at *; omega) ?_;refine ah.pure (S.LP l (l.getD i default) false f (by omega) hs (hs.get i)) rfl ?_;refine⟨fun h4=>?_,fun h4=>?_⟩
  ·conv=>whnf
   refine ah.pure (S.kJ (l.getD i default) (l.any (AU (l.getD i default))) (hs.get i)) rfl ?_;repeat(refine VC.mk (by first|(show(((l.take i).filter (wO l)).length+(0+1))*32<=140737488355328/\((l.take i).filter (wO l)).length+(0+1)<=1152921504606846976; omega)|(simp only[okI] at *; omega)) ?_)
   refine⟨i+1,[25],by omega,by omega,(sR rfl),(sR rfl),⟨rfl,nofun,rfl,rfl,rfl,_,rfl,rfl,rfl,dQ.of_eq ?_⟩,trivial⟩;rw[hstep,if_pos (show wO l (l.getD i default)=true from h4)];show List.map iE _++[]=List.map iE _++[iE _];simp
  ·conv=>whnf
   refine .mk (by simp only[okI] at *; omega) ?_;refine⟨i+1,[0],by omega,by omega,(sR rfl),(sR rfl),⟨rfl,nofun,rfl,rfl,rfl,_,rfl,rfl,rfl,dQ.of_eq ?_⟩,trivial⟩;rw[hstep,if_neg (by rw[show wO l (l.getD i default)=false from h4]; decide),List.append_nil]
 ·have hi':l.length<=i:=by simpa using h3
  have hA:l.take i=l:=List.take_of_length_le hi';rw[hA] at hfl ⊢;refine ah.heap (S.tH (l.filter (wO l)) _ (by omega) (fun e he=>hs e (List.mem_filter.1 he).1)) ?_;rintro t hp (⟨rfl,rfl⟩|⟨m,rfl,rfl⟩)
  ·refine⟨.own 0,h1 _,rfl,rfl,?_⟩;exact ak.adG rfl
  ·refine⟨.pq 0 0 _,[(0,some _)],rfl,rfl,?_⟩;exact ak.abg rfl
theorem Y3: ∀ {a b:List Int},pJ a b=true->cmpL a b<=0:=by
 intro a;induction a with
 |nil=>intro b h; cases b<;>simp[pJ,cmpL] at *
 |cons x a ih =>
  intro b h;cases b with
  |nil=>simp[pJ] at h
  |cons y b =>
   simp only[pJ,Bool.and_eq_true,decide_eq_true_eq] at h;simp only[cmpL];by_cases h1:x<y
   ·simp[h1]
   ·have h2: ¬ y<x:=by omega
    simp only[h1,h2,if_false]; exact ih h.2
theorem Qh{a b:Elem}(h:tV a b=true):jY a b<=0:=by
 simp only[tV,Bool.and_eq_true,beq_iff_eq] at h;simp only[jY];rw[if_neg (by omega),if_neg (by omega)];exact Y3 h.2
theorem WR: ∀ a:List Int,pJ a a=true:=by
 intro a;induction a with
 |nil=>rfl
 |cons x a ih=>simp[pJ,ih]
theorem MV(a:Elem):tV a a=true:=by simp[tV,WR]
theorem TV: ∀ {a b c:List Int},pJ a b=true->pJ b c=true->pJ a c=true:=by
 intro a;induction a with
 |nil=>intro b c h1 h2; cases b<;>cases c<;>simp[pJ] at *
 |cons x a ih =>
  intro b c h1 h2;cases b with
  |nil=>simp[pJ] at h1
  |cons y b=>cases c with
   |nil=>simp[pJ] at h2
   |cons z c =>
    simp only[pJ,Bool.and_eq_true,decide_eq_true_eq] at *;exact⟨by omega,ih h1.2 h2.2⟩
theorem Jw{a b c:Elem}(h1:tV a b=true)(h2:tV b c=true):tV a c=true:=by
 simp only[tV,Bool.and_eq_true,beq_iff_eq] at *;exact⟨by omega,TV h1.2 h2.2⟩
theorem yP{x y:Elem}:AU x y=true↔tV y x=true/\y≠x:=by
 simp only[AU,Bool.and_eq_true,bne_iff_ne,ne_eq,kU]
theorem Oi{x y:Elem}(h:AU x y=true):jY y x<0:=by
 rw[yP] at h;have h1:=Qh h.1;have h2:jY y x≠0:=fun e=>h.2 (kU.1 e)
 omega
def SS(l:List Elem):Prop:=l.Pairwise fun a b=>jY a b<0
theorem MP: ∀ {a b:List Elem},SS a->SS b->(∀ x,x∈a↔x∈b)->a=b:=by
 intro a;induction a with
 |nil =>
  intro b _ _ h;cases b with
  |nil=>rfl
  |cons y b=>exact absurd ((h y).2 (by simp)) (by simp)
 |cons x a ih =>
  intro b ha hb h;cases b with
  |nil=>exact absurd ((h x).1 (by simp)) (by simp)
  |cons y b =>
   simp only[SS,List.pairwise_cons] at ha hb;have hself: ∀ z:Elem,¬ jY z z<0:=fun z=>by rw[kU.2 rfl]; decide
   have hxy:x=y:=by
    rcases List.mem_cons.1 ((h x).1 (by simp)) with e|hx
    ·exact e
    ·rcases List.mem_cons.1 ((h y).2 (by simp)) with e|hy
     ·exact e.symm
     ·exact absurd (zK (ha.1 y hy) (hb.1 x hx)) (hself x)
   subst hxy;rw[ih ha.2 hb.2 fun z=>?_];constructor
   ·intro hz;rcases List.mem_cons.1 ((h z).1 (by simp[hz])) with e|h'
    ·subst e; exact absurd (ha.1 z hz) (hself z)
    ·exact h'
   ·intro hz;rcases List.mem_cons.1 ((h z).2 (by simp[hz])) with e|h'
    ·subst e; exact absurd (hb.1 z hz) (hself z)
    ·exact h'
theorem MW{l:List Elem}(hs:ES l): ∀ n,n<=l.length->SS (uH l n)/\(∀ x,x∈uH l n↔x∈l.take n)/\(∀ x∈uH l n,n<l.length-> ¬ jY (l.getD n default) x<0):=by
 intro n;induction n with
 |zero=>intro _; exact⟨by simp[SS,uH],by simp[uH],by simp[uH]⟩
 |succ n ih =>
  intro hn;obtain⟨h1,h2,h3⟩:=ih (by omega);have hnl:n<l.length:=by omega
  have hmono: ∀ i j,i<=j->j<l.length-> ¬ jY (l.getD j default) (l.getD i default)<0:=by
   intro i j hij hj;by_cases e:i=j
   ·subst e; rw[kU.2 rfl]; decide
   ·have:=List.pairwise_iff_getElem.1 hs i j (by omega) hj (by omega);simpa [hj,show i<l.length by omega] using this
  have htake: ∀ x,x∈l.take n-> ∃ i,i<n/\l.getD i default=x:=by
   intro x hx;rw[List.mem_take_iff_getElem] at hx;obtain⟨i,hi,e⟩:=hx;exact⟨i,by omega,by rw[<- e]; simp[show i<l.length by omega]⟩
  have hlast:l.take (n+1)=l.take n++[l.getD n default]:=by
   rw[List.take_add_one]; simp[hnl]
  simp only[uH];split
  ·rename_i hc;refine⟨?_,?_,?_⟩
   ·simp only[SS,List.pairwise_append];refine⟨h1,by simp,fun x hx y hy=>?_⟩;rw[List.mem_singleton] at hy; subst hy;have hge:=h3 x hx hnl;rw[qJ] at hge;have hne:jY x (l.getD n default)≠0:=by
     intro e;rw[kU] at e;rcases hc with hc|hc
     ·subst hc; simp[uH] at hx
     ·obtain⟨i,hi,hix⟩:=htake x ((h2 x).1 hx);have g1:=hmono i (n-1) (by omega) (by omega);have g2:=hmono (n-1) n (by omega) hnl;rw[hix,e] at g1;rw[qJ] at g1
      have:jY (l.getD n default) (l.getD (n-1) default)=0:=by omega
      exact hc (kU.1 this)
    omega
   ·intro x;rw[hlast];simp only[List.mem_append,h2]
   ·intro x hx hn1;rcases List.mem_append.1 hx with hx|hx
    ·obtain⟨i,hi,hix⟩:=htake x ((h2 x).1 hx);rw[<- hix]; exact hmono i (n+1) (by omega) hn1
    ·rw[List.mem_singleton] at hx; subst hx;exact hmono n (n+1) (by omega) hn1
  ·rename_i hc;have hc':n≠0/\l.getD n default=l.getD (n-1) default:=by
    constructor
    ·intro e; exact hc (.inl e)
    ·by_cases e:l.getD n default=l.getD (n-1) default
     ·exact e
     ·exact absurd (.inr e) hc
   refine⟨h1,fun x=>?_,fun x hx hn1=>?_⟩
   ·rw[hlast,h2];simp only[List.mem_append,List.mem_singleton];constructor
    ·exact .inl
    ·rintro(h|h)
     ·exact h
     ·rw[h,hc'.2];rw[List.mem_take_iff_getElem];exact⟨n-1,by omega,by simp[show n-1<l.length by omega]⟩
   ·obtain⟨i,hi,hix⟩:=htake x ((h2 x).1 hx);rw[<- hix]; exact hmono i (n+1) (by omega) hn1
theorem Qi(l:List Elem):SS (xX l):=(MW (CG l) _ (Nat.le_refl _)).1
theorem Gx(l:List Elem)(x:Elem):x∈xX l↔x∈l:=by
 unfold xX uI;rw[(MW (CG l) _ (Nat.le_refl _)).2.1,List.take_length];exact(wL l).mem_iff
theorem filter_lt{l:List Elem}{p q:Elem->Bool}(hpq: ∀ x,p x=true->q x=true){y:Elem}(hy:y∈l)(hq:q y=true)(hp:p y=false):(l.filter p).length<(l.filter q).length:=by
 induction l with
 |nil=>cases hy
 |cons x l ih =>
  have hle: ∀ l:List Elem,(l.filter p).length<=(l.filter q).length:=by
   intro l;induction l with
   |nil=>simp
   |cons z l ih =>
    simp only[List.filter_cons];by_cases h1:p z=true
    ·rw[if_pos h1,if_pos (hpq z h1)]; simp; exact ih
    ·rw[if_neg h1]; split
     ·simp; omega
     ·exact ih
  simp only[List.filter_cons];rcases List.mem_cons.1 hy with rfl|hy
  ·rw[if_neg (by rw[hp]; decide),if_pos hq];have:=hle l;simp; omega
  ·have:=ih hy;by_cases h1:p x=true
   ·rw[if_pos h1,if_pos (hpq x h1)]; simp; exact this
   ·rw[if_neg h1]; split
    ·simp; omega
    ·exact this
theorem WS(l:List Elem): ∀ (n:Nat) (b:Elem),b∈l->(l.filter fun z=>decide (jY z b<0)).length<=n-> ∃ z∈l,tV z b=true/\l.any (AU z)=false:=by
 intro n;induction n with
 |zero =>
  intro b hb hn;refine⟨b,hb,MV b,?_⟩;rw[List.any_eq_false];intro y hy hab
  have:y∈l.filter fun z=>decide (jY z b<0):=List.mem_filter.2 ⟨hy,by simpa using Oi hab⟩
  have:=List.length_pos_of_mem this;omega
 |succ n ih =>
  intro b hb hn;cases hm:l.any (AU b) with
  |false=>exact⟨b,hb,MV b,hm⟩
  |true =>
   rw[List.any_eq_true] at hm;obtain⟨y,hy,hab⟩:=hm;have hlt:=Oi hab;have hfl:(l.filter fun z=>decide (jY z y<0)).length<(l.filter fun z=>decide (jY z b<0)).length:=by
    refine filter_lt (y:=y) (fun x hx=>?_) hy (by simpa using hlt) (by rw[kU.2 rfl]; decide);simp only[decide_eq_true_eq] at hx ⊢;exact zK hx hlt
   obtain⟨z,hz,h1,h2⟩:=ih y hy (by omega);exact⟨z,hz,Jw h1 (yP.1 hab).1,h2⟩
theorem adK(l:List Elem){b:Elem}(hb:b∈l): ∃ z∈l,tV z b=true/\l.any (AU z)=false:=WS l _ b hb (Nat.le_refl _)
theorem any_congr{a b:List Elem}{p:Elem->Bool}(h: ∀ x,x∈a↔x∈b):a.any p=b.any p:=by
 rw[Bool.eq_iff_iff,List.any_eq_true,List.any_eq_true];exact⟨fun⟨x,h1,h2⟩=>⟨x,(h x).1 h1,h2⟩,fun⟨x,h1,h2⟩=>⟨x,(h x).2 h1,h2⟩⟩
theorem rM(l:List Elem):SS (bW l)/\ ∀ x,x∈bW l↔x∈l/\l.any (AU x)=false:=by
 refine⟨Qi _,fun x=>?_⟩;rw[bW,Gx,List.mem_filter];simp[wO]
theorem wP{l:List Elem}{x:Elem}(h:x∈bW l):x∈l:=(((rM l).2 x).1 h).1
theorem D6(l:List Elem):(bW l).length<=l.length:=by
 have h1:=IY (rQ (l.filter (wO l))) (rQ (l.filter (wO l))).length;have h2:=MS (l.filter (wO l));have h3:=List.length_filter_le (wO l) l;show(uH _ _).length<=_;omega
end Go.Proofs.YtdhobgbagphngaaGreatDoor
