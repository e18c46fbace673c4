/-
 A part of the proof. No condition.
-/
import Derived.Test.YtajmbgljnaljiaaGreatDoorSb
import Derived.Test.YtajmbgljnaljiaaGreatDoorLg
import Derived.Test.YtajmbgljnaljiaaGreatDoorLe
import Derived.Test.YtajmbgljnaljiaaGreatDoorSc
namespace Go.Proofs.YtajmbgljnaljiaaGreatDoor
open Go.Ab Go.Proofs
set_option maxRecDepth 100000
def Va(a b:Int):Int:=if a<b then -1 else if b<a then 1 else 0
def cmpL:List Int->List Int->Int
 |[],[]=>0
 |[],_::_=> -1
 |_::_,[]=>1
 |x::a,y::b=>if x<y then -1 else if y<x then 1 else cmpL a b
def fE(a b:Elem):Int:=if a.value<b.value then -1 else if b.value<a.value then 1 else cmpL a.counts b.counts
theorem dU{α:Type}{l:List α}{i:Nat}(d:α)(h:i<l.length):l.drop i=l.getD i d::l.drop (i+1):=by
 rw[List.drop_eq_getElem_cons h]; simp[h]
theorem NI{a b:List Int}{i:Nat}(ha:i<a.length)(hb:i<b.length) :
  cmpL (a.drop i) (b.drop i)=if a.getD i 0<b.getD i 0 then -1 else if b.getD i 0<a.getD i 0 then 1 else cmpL (a.drop (i+1)) (b.drop (i+1)):=by
 rw[dU 0 ha,dU 0 hb]; rfl
theorem FM{a b:List Int}{i:Nat}(hi:a.length<=i\/b.length<=i)(h1:i<=a.length)(h2:i<=b.length) :
  cmpL (a.drop i) (b.drop i)=if a.length<b.length then -1 else if b.length<a.length then 1 else 0:=by
 by_cases ha:a.length<=i
 ·have e:a.drop i=[]:=List.drop_eq_nil_of_le ha
  rw[e]
  by_cases hb:b.length<=i
  ·rw[List.drop_eq_nil_of_le hb,if_neg (by omega),if_neg (by omega)]; rfl
  ·rw[dU 0 (by omega),if_pos (by omega)]; rfl
 ·have hb:b.length<=i:=by omega
  rw[List.drop_eq_nil_of_le hb,dU 0 (by omega),if_neg (by omega),if_pos (by omega)]; rfl
theorem S.cmp_isNaN_int(a:Int):aj Tryz.prog 107 [.int a] (.bool false):=by
 refine aj.of Bd.cmp_isNaN_int (by simp) rfl rfl ?_
 conv=>whnf
 refine ak.bool ?_
 simp
theorem S.cmp_Compare_int(a b:Int):aj Tryz.prog 72 [.int a,.int b] (.int (Va a b)):=by
 refine aj.of Bd.cmp_Compare_int (by simp) rfl rfl ?_
 conv=>whnf
 refine ah.pure (S.cmp_isNaN_int a) rfl ?_
 conv=>whnf
 refine ah.pure (S.cmp_isNaN_int b) rfl ?_
 conv=>whnf
 refine Fork.mk (fun h1=>by cases h1) (fun _=>?_)
 conv=>whnf
 refine Fork.mk (fun h1=>by cases h1) (fun _=>?_)
 conv=>whnf
 refine⟨fun h1=>?_,fun h1=>?_⟩
 ·conv=>whnf
  exact ak.int (by simp only[decide_eq_true_eq] at h1; simp[Va,h1])
 ·conv=>whnf
  simp only[decide_eq_false_iff_not] at h1
  refine⟨fun h2=>?_,fun h2=>?_⟩
  ·conv=>whnf
   exact ak.int (by simp only[decide_eq_true_eq] at h2; simp[Va,h1,h2])
  ·conv=>whnf
   exact ak.int (by simp only[decide_eq_false_iff_not] at h2; simp[Va,h1,h2])
theorem S.Kq(a b:List Int)(ha:a.length<2^40)(hb:b.length<2^40):aj Tryz.prog 73 [.row 0 false (.ints a),.row 0 false (.ints b)] (.int (cmpL a b)):=by
 refine aj.of Bd.lu (by simp) rfl rfl ?_
 conv=>whnf
 refine aB.same [0,1,9,10] (fun i:Nat=>[(11,.int i)]) (fun i=>i<=a.length/\i<=b.length/\cmpL a b=cmpL (a.drop i) (b.drop i)) (fun i=>a.length-i) 0 rfl (by decide) rfl (fun _=>rfl) ⟨by omega,by omega,rfl⟩ ⟨⟨_,rfl,rfl⟩,trivial⟩ ?_
 conv=>whnf
 refine⟨rfl,?_⟩
 rintro i ⟨hi,hj,he⟩
 conv=>whnf
 refine⟨fun h3=>?_,fun h3=>?_⟩
 ·have hi':i<a.length:=by simpa using h3
  conv=>whnf
  refine .mk (by simp only[Rw.rng] at *; first|omega|(simp_all; done)|(simp_all; omega)) ?_
  conv=>whnf
  refine⟨fun h4=>?_,fun h4=>?_⟩
  ·conv=>whnf
   have hb':b.length<=i:=by simpa using h4
   refine ak.int ?_
   rw[he,FM (.inr hb') hi hj,if_neg (by omega),if_pos (by omega)]
  ·have hb':i<b.length:=by simpa using h4
   conv=>whnf
   refine .mk (by simp only[Rw.rng] at *; first|omega|(simp_all; done)|(simp_all; omega)) ?_
   conv=>whnf
   refine ah.pure (S.cmp_Compare_int _ _) rfl ?_
   rw[NI hi' hb'] at he
   conv=>whnf
   simp only[Int.toNat_natCast]
   refine⟨fun h5=>?_,fun h5=>?_⟩
   ·conv=>whnf
    refine ak.int ?_
    rw[he]
    simp only[bne_iff_ne,ne_eq] at h5 ⊢
    generalize a.getD i 0=x at h5 ⊢
    generalize b.getD i 0=y at h5 ⊢
    unfold Va at h5 ⊢
    by_cases h6:x<y
    ·simp[h6]
    ·by_cases h7:y<x
     ·simp[h6,h7]
     ·simp[h6,h7] at h5
   ·conv=>whnf
    refine .mk (by simp only[okI] at *; first|omega|(simp_all; done)|(simp_all; omega)) ?_
    conv=>whnf
    have h6: ¬ a.getD i 0<b.getD i 0/\ ¬ b.getD i 0<a.getD i 0:=by
     simp only[bne_eq_false_iff_eq] at h5
     generalize a.getD i 0=x at h5 ⊢
     generalize b.getD i 0=y at h5 ⊢
     unfold Va at h5
     by_cases h6:x<y
     ·simp[h6] at h5
     ·by_cases h7:y<x
      ·simp[h6,h7] at h5
      ·exact⟨h6,h7⟩
    refine⟨i+1,⟨by omega,by omega,by rw[he,if_neg h6.1,if_neg h6.2]⟩,by omega,⟨⟨_,rfl,rfl⟩,trivial⟩,?_,rfl⟩
    repeat' (first|exact trivial|exact⟨_,rfl,rfl⟩|constructor)
 ·have hi':a.length<=i:=by simpa using h3
  conv=>whnf
  refine⟨fun h4=>?_,fun h4=>?_⟩
  ·conv=>whnf
   refine ak.int ?_
   rw[he,FM (.inl hi') hi hj,if_pos (by simpa using h4)]
  ·conv=>whnf
   refine ak.int ?_
   have:b.length<=a.length:=by simpa using h4
   rw[he,FM (.inl hi') hi hj,if_neg (by omega),if_neg (by omega)]
theorem S.wW(x y:Int)(f:Bool):aj Tryz.prog 71 [.row 0 f (.ints [x,y])] (.int (if x≠0 then x else y)):=by
 refine aj.of Bd.wW (by simp) rfl rfl ?_
 conv=>whnf
 refine aB.same [3,6,7] (fun i:Nat=>[(8,.int i)]) (fun i=>i<=2/\(0<i->x=0)/\(1<i->y=0)) (fun i=>2-i) 0 rfl (by decide) rfl (fun _=>rfl) ⟨by omega,by omega,by omega⟩ ⟨⟨_,rfl,rfl⟩,trivial⟩ ?_
 conv=>whnf
 refine⟨rfl,?_⟩
 rintro i ⟨hi,h0,h1⟩
 conv=>whnf
 refine⟨fun h3=>?_,fun h3=>?_⟩
 ·have hi':i<2:=by simp at h3; omega
  conv=>whnf
  refine .mk (by simp only[Rw.rng,List.length_cons,List.length_nil]; omega) ?_
  conv=>whnf
  refine⟨fun h4=>?_,fun h4=>?_⟩
  ·conv=>whnf
   refine ak.int ?_
   simp only[Int.toNat_natCast,bne_iff_ne,ne_eq] at h4 ⊢
   by_cases e:i=0
   ·subst e; simp at h4 ⊢; simp[h4]
   ·have:i=1:=by omega
    subst this; simp at h4 ⊢; simp[h0]
  ·conv=>whnf
   refine .mk (by simp only[okI] at *; first|omega|(simp_all; done)|(simp_all; omega)) ?_
   conv=>whnf
   refine⟨i+1,⟨by omega,fun _=>?_,fun hlt=>?_⟩,by omega,⟨⟨_,rfl,rfl⟩,trivial⟩,?_,rfl⟩
   ·by_cases e:i=0
    ·subst e; simpa using h4
    ·exact h0 (by omega)
   ·have:i=1:=by omega
    subst this; simpa using h4
   ·repeat' (first|exact trivial|exact⟨_,rfl,rfl⟩|constructor)
 ·have:i=2:=by simp at h3; omega
  subst this
  conv=>whnf
  refine ak.int ?_
  simp[h0,h1]
theorem S.iI(a b:Elem)(ha:a.counts.length<2^40)(hb:b.counts.length<2^40):aj Tryz.prog 45 [.dat (.elem a),.dat (.elem b)] (.int (fE a b)):=by
 refine aj.of Bd.iI (by simp) rfl rfl ?_
 conv=>whnf
 refine ah.pure (S.cmp_Compare_int a.value b.value) rfl ?_
 conv=>whnf
 refine ah.pure (S.Kq a.counts b.counts ha hb) rfl ?_
 conv=>whnf
 refine ah.pure (S.wW _ _ true) rfl ?_
 conv=>whnf
 refine ak.int ?_
 unfold fE Va
 by_cases h6:a.value<b.value
 ·simp[h6]
 ·by_cases h7:b.value<a.value
  ·simp[h6,h7]
  ·simp[h6,h7]
def eF(l:List Elem):Prop:= ∀ e∈l,e.counts.length<2^40
theorem eF.get{l:List Elem}(h:eF l)(i:Nat):(l.getD i default).counts.length<2^40:=by
 rw[List.getD_eq_getElem?_getD]
 cases e:l[i]? with
 |none=>show([]:List Int).length<2^40; decide
 |some x=>exact h x (List.mem_of_getElem? e)
theorem kN{α:Type}{l:List α}{p:α->Bool}{d:α}{i:Nat}(hi:i<l.length)(h:(l.take i).any p=false):(l.take (i+1)).any p=p (l.getD i d):=by
 rw[List.take_add_one,List.any_append,h,Bool.false_or]
 simp[hi]
theorem iU{α:Type}{l:List α}{p:α->Bool}{d:α}{i:Nat}(hi:i<l.length)(h:p (l.getD i d)=true):l.any p=true:=by
 rw[List.any_eq_true]
 exact⟨l[i],List.getElem_mem hi,by simpa [hi] using h⟩
theorem S.zn(a b:List Int)(ha:a.length<2^40)(hb:b.length<2^40):aj Tryz.prog 91 [.row 0 false (.ints a),.row 0 false (.ints b)] (.int (cmpL a b)):=by
 refine aj.of Bd.zn (by simp) rfl rfl ?_
 conv=>whnf
 refine aB.same [0,1] (fun i:Nat=>[(5,.int i)]) (fun i=>i<=a.length/\i<=b.length/\cmpL a b=cmpL (a.drop i) (b.drop i)) (fun i=>a.length-i) 0 rfl (by decide) rfl (fun _=>rfl) ⟨by omega,by omega,rfl⟩ ⟨⟨_,rfl,rfl⟩,trivial⟩ ?_
 conv=>whnf
 refine⟨rfl,?_⟩
 rintro i ⟨hi,hj,he⟩
 conv=>whnf
 repeat(refine VC.mk (by first|exact id|exact fun h=>⟨h,h⟩) ?_; conv=>whnf)
 refine⟨fun h3=>?_,fun h3=>?_⟩
 ·have hi':i<a.length/\i<b.length:=by
   by_cases h:i<a.length
   ·simp[h] at h3; exact⟨h,by omega⟩
   ·simp[h] at h3
  rw[NI hi'.1 hi'.2] at he
  obtain⟨hi1,hi2⟩:=hi'
  conv=>whnf
  repeat(refine VC.mk (by simp only[Rw.rng] at *; first|omega|(simp_all; done)|(simp_all; omega)) ?_; conv=>whnf)
  refine⟨fun h5=>?_,fun h5=>?_⟩
  ·conv=>whnf
   refine ak.int ?_
   simp only[Int.toNat_natCast,decide_eq_true_eq] at h5
   rw[he,if_pos h5]
  ·conv=>whnf
   repeat(refine VC.mk (by simp only[Rw.rng] at *; first|omega|(simp_all; done)|(simp_all; omega)) ?_; conv=>whnf)
   simp only[Int.toNat_natCast,decide_eq_false_iff_not] at h5
   refine⟨fun h6=>?_,fun h6=>?_⟩
   ·conv=>whnf
    refine ak.int ?_
    simp only[Int.toNat_natCast,decide_eq_true_eq] at h6
    rw[he,if_neg h5,if_pos h6]
   ·conv=>whnf
    refine .mk (by simp only[okI] at *; first|omega|(simp_all; done)|(simp_all; omega)) ?_
    conv=>whnf
    simp only[Int.toNat_natCast,decide_eq_false_iff_not] at h6
    refine⟨i+1,⟨by omega,by omega,by rw[he,if_neg h5,if_neg h6]⟩,by omega,⟨⟨_,rfl,rfl⟩,trivial⟩,?_,rfl⟩
    repeat' (first|exact trivial|exact⟨_,rfl,rfl⟩|constructor)
 ·have hi':a.length<=i\/b.length<=i:=by
   by_cases h:i<a.length
   ·simp[h] at h3; exact .inr (by omega)
   ·exact .inl (by omega)
  have hx:=FM hi' hi hj
  rw[<- he] at hx
  conv=>whnf
  refine⟨fun h4=>?_,fun h4=>?_⟩
  ·conv=>whnf
   refine ak.int ?_
   rw[hx,if_pos (by simpa using h4)]
  ·conv=>whnf
   have h5: ¬ a.length<b.length:=by simpa using h4
   refine⟨fun h6=>?_,fun h6=>?_⟩
   ·conv=>whnf
    refine ak.int ?_
    rw[hx,if_neg h5,if_pos (by simpa using h6)]
   ·conv=>whnf
    refine ak.int ?_
    rw[hx,if_neg h5,if_neg (by simpa using h6)]
theorem S.lM(a b:Elem)(ha:a.counts.length<2^40)(hb:b.counts.length<2^40):aj Tryz.prog 57 [.dat (.elem a),.dat (.elem b)] (.int (fE a b)):=by
 refine aj.of Bd.lM (by simp) rfl rfl ?_
 conv=>whnf
 refine⟨fun h1=>?_,fun h1=>?_⟩
 ·conv=>whnf
  exact ak.int (by simp only[decide_eq_true_eq] at h1; simp[fE,h1])
 ·conv=>whnf
  simp only[decide_eq_false_iff_not] at h1
  refine⟨fun h2=>?_,fun h2=>?_⟩
  ·conv=>whnf
   exact ak.int (by simp only[decide_eq_true_eq] at h2; simp[fE,h1,h2])
  ·simp only[decide_eq_false_iff_not] at h2
   conv=>whnf
   refine ah.pure (S.zn a.counts b.counts ha hb) rfl ?_
   conv=>whnf
   exact ak.int (by simp[fE,h1,h2])
theorem cmpL_eq: ∀ {a b:List Int},cmpL a b=0↔a=b:=by
 intro a
 induction a with
 |nil=>intro b; cases b<;>simp[cmpL]
 |cons x a ih =>
  intro b
  cases b with
  |nil=>simp[cmpL]
  |cons y b =>
   simp only[cmpL]
   split
   ·simp; omega
   ·split
    ·simp; omega
    ·rw[ih]; simp; intro _; omega
theorem iW{a b:Elem}:fE a b=0↔a=b:=by
 obtain⟨v,c⟩:=a; obtain⟨w,d⟩:=b
 simp only[fE]
 split
 ·simp; omega
 ·split
  ·simp; omega
  ·rw[cmpL_eq]; simp; intro _; omega
theorem S.BQ(a b:List Elem)(f g:Bool)(ha:a.length<2^40)(hb:b.length<2^40)(sa:eF a)(sb:eF b):aj Tryz.prog 32 [.row 3 f (.elems a),.row 3 g (.elems b)] (.bool (decide (a=b))):=by
 refine aj.of Bd.BQ (by simp) rfl rfl ?_
 conv=>whnf
 refine⟨fun h1=>?_,fun h1=>?_⟩
 ·conv=>whnf
  refine ak.bool ?_
  refine decide_eq_false ?_
  simp at h1
  rintro rfl; exact h1 rfl
 ·have hlen:a.length=b.length:=by simp at h1; omega
  conv=>whnf
  refine aB.same [0,1] (fun i:Nat=>[(5,.int i)]) (fun i=>i<=a.length/\a.take i=b.take i) (fun i=>a.length-i) 0 rfl (by decide) rfl (fun _=>rfl) ⟨by omega,by simp⟩ ⟨⟨_,rfl,rfl⟩,trivial⟩ ?_
  conv=>whnf
  refine⟨rfl,?_⟩
  rintro i ⟨hi,hall⟩
  conv=>whnf
  refine⟨fun h3=>?_,fun h3=>?_⟩
  ·have hi':i<a.length:=by simpa using h3
   conv=>whnf
   repeat(refine VC.mk (by simp only[Rw.rng] at *; first|omega|(simp_all; done)|(simp_all; omega)) ?_; conv=>whnf)
   refine ah.pure (S.lM _ _ (by simpa using sa.get i) (by simpa using sb.get i)) rfl ?_
   conv=>whnf
   refine⟨fun h4=>?_,fun h4=>?_⟩
   ·conv=>whnf
    refine ak.bool ?_
    refine decide_eq_false ?_
    rintro rfl
    simp only[Int.toNat_natCast,bne_iff_ne,ne_eq] at h4
    exact h4 (iW.2 rfl)
   ·conv=>whnf
    refine .mk (by simp only[okI] at *; first|omega|(simp_all; done)|(simp_all; omega)) ?_
    conv=>whnf
    simp only[Int.toNat_natCast,bne_eq_false_iff_eq] at h4
    rw[iW] at h4
    refine⟨i+1,⟨by omega,?_⟩,by omega,⟨⟨_,rfl,rfl⟩,trivial⟩,?_,rfl⟩
    ·rw[List.take_add_one,List.take_add_one,hall]
     congr 1
     have hb':i<b.length:=by omega
     simp only[List.getD_eq_getElem?_getD,List.getElem?_eq_getElem hi',List.getElem?_eq_getElem hb',Option.getD_some] at h4
     simp[hi',hb',h4]
    ·repeat' (first|exact trivial|exact⟨_,rfl,rfl⟩|constructor)
  ·conv=>whnf
   refine ak.bool ?_
   have hi':a.length<=i:=by simpa using h3
   rw[List.take_of_length_le hi',List.take_of_length_le (by omega)] at hall
   symm; simpa using hall
def IK(n:Int):Bool:=decide (0<=n)&&decide (n<=1048576)
theorem S.mX(l:List Int)(f:Bool)(hl:l.length<2^40):aj Tryz.prog 123 [.row 0 f (.ints l)] (.bool (l.all IK)):=by
 refine aj.of Bd.mX (by simp) rfl rfl ?_
 conv=>whnf
 refine aB.same [5,6] (fun i:Nat=>[(7,.int i)]) (fun i=>i<=l.length/\(l.take i).all IK=true) (fun i=>l.length-i) 0 rfl (by decide) rfl (fun _=>rfl) ⟨by omega,by simp⟩ ⟨⟨_,rfl,rfl⟩,trivial⟩ ?_
 conv=>whnf
 refine⟨rfl,?_⟩
 rintro i ⟨hi,hall⟩
 conv=>whnf
 refine⟨fun h3=>?_,fun h3=>?_⟩
 ·have hi':i<l.length:=by simpa using h3
  conv=>whnf
  repeat(refine VC.mk (by first|exact id|(intro h; rw[h]; rfl)|(simp only[Rw.rng] at *; first|omega|(simp_all; done)|(simp_all; omega))) ?_; conv=>whnf)
  refine⟨fun h4=>?_,fun h4=>?_⟩
  ·conv=>whnf
   refine ak.bool ?_
   simp only[Int.toNat_natCast] at h4
   have h5:IK (l.getD i 0)=false:=by
    have key: ∀ x:Int,(decide (x<0)||decide (1048576<x))=true->IK x=false:=by
     intro x h4
     unfold IK
     by_cases h0:x<0
     ·simp; omega
     ·simp[h0] at h4; simp; omega
    exact key _ h4
   rw[Bool.eq_false_iff]
   intro h
   rw[List.all_eq_true] at h
   have:=h l[i] (List.getElem_mem hi')
   rw[show l.getD i 0=l[i] by simp[hi']] at h5
   rw[this] at h5; cases h5
  ·conv=>whnf
   refine .mk (by simp only[okI] at *; first|omega|(simp_all; done)|(simp_all; omega)) ?_
   conv=>whnf
   simp only[Int.toNat_natCast] at h4
   refine⟨i+1,⟨by omega,?_⟩,by omega,⟨⟨_,rfl,rfl⟩,trivial⟩,?_,rfl⟩
   ·have h5:IK (l.getD i 0)=true:=by
     have key: ∀ x:Int,(decide (x<0)||decide (1048576<x))=false->IK x=true:=by
      intro x h4
      unfold IK
      by_cases h0:x<0
      ·simp[h0] at h4
      ·simp[h0] at h4; simp; omega
     exact key _ h4
    rw[List.take_add_one,List.all_append,hall]
    simpa [hi'] using h5
   ·repeat' (first|exact trivial|exact⟨_,rfl,rfl⟩|constructor)
 ·conv=>whnf
  refine ak.bool ?_
  have hi':l.length<=i:=by simpa using h3
  rw[List.take_of_length_le hi'] at hall; exact hall
def xM(e:Elem):Int:=if 6<e.counts.length then 0 else if e.counts.all IK=true then e.counts.sum else 0
theorem vJ: ∀ {l:List Int},l.all IK=true->0<=l.sum/\l.sum<=l.length*1048576:=by
 intro l
 induction l with
 |nil=>intro _; simp
 |cons x l ih =>
  intro h
  simp only[List.all_cons,Bool.and_eq_true,IK,decide_eq_true_eq] at h
  have:=ih h.2
  simp only[List.sum_cons,List.length_cons]
  omega
theorem RY{l:List Int}(h:l.all IK=true)(i:Nat):(l.take i).all IK=true:=by
 rw[List.all_eq_true] at h ⊢
 exact fun x hx=>h x (List.mem_of_mem_take hx)
theorem Jz{l:List Int}{i:Nat}(hi:i<l.length):(l.take (i+1)).sum=(l.take i).sum+l.getD i 0:=by
 rw[List.take_add_one,List.sum_append]; simp[hi]
theorem S.qL(e:Elem)(hl:e.counts.length<2^40):aj Tryz.prog 90 [.dat (.elem e)] (.int (xM e)):=by
 refine aj.of Bd.qL (by simp) rfl rfl ?_
 conv=>whnf
 repeat(refine VC.mk id ?_; conv=>whnf)
 refine ah.dM (fun _=>S.mX e.counts false hl) rfl ?_
 conv=>whnf
 repeat(refine VC.mk (by first|exact id|(intro h; rw[h]; rfl)) ?_; conv=>whnf)
 refine⟨fun h1=>?_,fun h1=>?_⟩
 ·conv=>whnf
  refine ak.int ?_
  unfold xM
  by_cases h:6<e.counts.length
  ·rw[if_pos h]
  ·rw[if_neg h,if_neg]
   have h': ¬ (6:Int)<e.counts.length:=by omega
   simp[h'] at h1
   intro hh
   rw[List.all_eq_true] at hh
   obtain⟨x,hx,hx'⟩:=h1
   exact absurd (hh x hx) (by simp[hx'])
 ·have h2: ¬ 6<e.counts.length/\e.counts.all IK=true:=by
   by_cases h:(6:Int)<e.counts.length
   ·simp[h] at h1
   ·simp[h] at h1
    exact⟨by omega,by rw[List.all_eq_true]; exact h1⟩
  conv=>whnf
  refine aB.same [17,18] (fun i:Nat=>[(19,.int i),(3,.int (e.counts.take i).sum)]) (fun i=>i<=e.counts.length) (fun i=>e.counts.length-i) 0 rfl (by decide) rfl (fun _=>rfl) (by omega) ⟨⟨_,rfl,rfl⟩,⟨_,rfl,rfl⟩,trivial⟩ ?_
  conv=>whnf
  refine⟨rfl,?_⟩
  rintro i hi
  have hb:=vJ (RY h2.2 i)
  have hb':((e.counts.take i).length:Int)<=6:=by simp; omega
  conv=>whnf
  refine⟨fun h3=>?_,fun h3=>?_⟩
  ·have hi':i<e.counts.length:=by simpa using h3
   have hs:=Jz hi'
   have hc:=vJ (RY h2.2 (i+1))
   have hc':((e.counts.take (i+1)).length:Int)<=6:=by simp; omega
   conv=>whnf
   repeat(refine VC.mk (by first|(simp only[okI,Int.toNat_natCast] at *; rw[<- hs]; omega)|(simp only[okI,Rw.rng] at *; first|omega|(simp_all; done)|(simp_all; omega))) ?_; conv=>whnf)
   refine⟨i+1,by omega,by omega,⟨⟨_,rfl,rfl⟩,⟨_,rfl,?_⟩,trivial⟩,?_,rfl⟩
   ·rw[hs]; simp[V.aI,rJ]
   ·repeat' (first|exact trivial|exact⟨_,rfl,rfl⟩|constructor)
  ·conv=>whnf
   refine ak.int ?_
   have hi':e.counts.length<=i:=by simpa using h3
   rw[List.take_of_length_le hi']
   simp[xM,h2.1,h2.2]
def aam(p:Elem->Bool)(l:List Elem):Int:=if l.any p=true then(l.findIdx p:Int) else -1
theorem LU{p:Elem->Bool}{l:List Elem}{i:Nat}(hi:i<l.length)(h0:(l.take i).any p=false)(h1:p (l.getD i default)=true):l.findIdx p=i:=by
 rw[List.findIdx_eq hi]
 refine⟨by simpa [hi] using h1,fun j hj=>?_⟩
 rw[List.any_eq_false] at h0
 have:=h0 l[j] (by rw[List.mem_take_iff_getElem]; exact⟨j,by omega,rfl⟩)
 simpa using this
theorem ak.elem{e:Elem}{n ty:Nat}{h:Hz}(q:h.get n=some (.row ty 0 (.ints e.counts) [])):ak (.dat (.elem e)) (.agg [.int e.value,.own n]) h:=⟨by
 show T.sub (fun _=>True) h.au (fD e) (.agg [.int e.value,.own n])
 simp only[fD,T.sub,T.dP,and_true]
 refine⟨trivial,trivial,trivial,?_,by decide,ty,?_⟩
 ·rw[dR]; intro t ht; obtain⟨x,_,rfl⟩:=List.mem_map.1 ht; rfl
 ·have:=aO q; simpa [OV.ay,Rw.aS,V.aS] using this⟩
theorem S.uD(e:Elem)(he:e.counts.length<2^40):aj Tryz.prog 27 [.dat (.elem e)] (.dat (.elem e)):=by
 refine aj.of Bd.uD (by simp) rfl rfl ?_
 conv=>whnf
 refine .mk (by simp only[nG,nY,Rw.len]; omega) ?_
 conv=>whnf
 exact ak.elem (ty:=3) rfl
theorem ah.lend{P:Program}{dr:Bool}{f:FuncId}{args args':List V}{res:V}{h:Hz}{n:Nat}{K:V->Hz->Prop}{KW:Nat->V->Hz->Prop}(S:aj P f args' res)(hs:T.dP (fun _=>True) h.au (V.aS args') (V.aS args))(hh:res.aI.hard=true)(hr:res.free=true)(hK:K res h):ah P dr none f args h n K KW :=
 ⟨.inl (wC.lend S hs hh (fun _ e=>by cases e) ⟨res,h,rfl,rfl,fun _=>⟨rfl,V.mF res hr⟩,hK⟩)⟩
theorem wI(l:List Elem):T.dJ (l.map fD)=true:=by
 rw[dR]; intro t ht; obtain⟨x,_,rfl⟩:=List.mem_map.1 ht; rfl
theorem bD.of_eq{a b:List T}(h:a=b):bD a b:=by subst h; exact .refl _
theorem ah.Nr{P:Program}{dr b:Bool}{f:FuncId}{args args':List V}{res:V}{h:Hz}{n:Nat}{K:V->Hz->Prop}{KW:Nat->V->Hz->Prop}(S:b=true->aj P f args' res)(hs:b=true->T.dP (fun _=>True) h.au (V.aS args') (V.aS args))(hh:res.aI.hard=true)(hr:res.free=true)(hK:K res h):ah P dr (some b) f args h n K KW :=
 ⟨.inl (.inl ⟨res,fun e=>wC.lend (S e) (hs e) hh (fun _ e=>by cases e) ⟨rfl,rfl⟩,hr,hK⟩)⟩
abbrev eH(l:List Elem):OV:=.row 54 3 (.elems l) []
theorem aew{h:Hz}{j:Nat}{l:List Elem}{Z:Nat->Prop}(hz:Z j)(q:h.get j=some (eH l)):T.sub Z h.au (V.row 3 false (.elems l)).aI (V.own j).aI:=by
 show T.sub Z h.au (.sl 3 false (l.map fD)) (.own j)
 simp only[T.sub]
 refine⟨trivial,hz,wI l,by decide,54,?_⟩
 have:=aO q; simpa [OV.ay,Rw.aS,V.aS] using this
theorem ak.X5{h:Hz}{j:Nat}{l:List Elem}(q:h.get j=some (eH l)):ak (.row 3 false (.elems l)) (.own j) h:=⟨aew trivial q⟩
def uU(l:List Elem)(e:Elem):Nat->Nat
 |0=>0
 |i+1=>if 0<fE (l.getD i default) e then uU l e i else i+1
def tH(l:List Elem)(e:Elem):Bool:=decide (0<uU l e l.length)&&decide (fE (l.getD (uU l e l.length-1) default) e=0)
def nR(l:List Elem)(e:Elem):List Elem:=if tH l e=true then l else l.take (uU l e l.length)++e::l.drop (uU l e l.length)
theorem I8{l:List Elem}{e:Elem}: ∀ i,uU l e i<=i:=by
 intro i
 induction i with
 |zero=>exact Nat.le_refl _
 |succ i ih=>simp only[uU]; split<;>omega
theorem aa4(i:Nat):((i:Int)-1).toNat=i-1:=by omega
theorem gtP{l:List Elem}{e:Elem}{i:Nat}:(decide ((0:Int)<i)&&decide (0<fE (l.getD ((i:Int)-1).toNat default) e))=true↔0<i/\0<fE (l.getD (i-1) default) e:=by
 rw[aa4,Bool.and_eq_true,decide_eq_true_eq,decide_eq_true_eq]
 exact⟨fun h=>⟨by omega,h.2⟩,fun h=>⟨by omega,h.2⟩⟩
theorem eqP{l:List Elem}{e:Elem}{i:Nat}:(decide ((0:Int)<i)&&(fE (l.getD ((i:Int)-1).toNat default) e==0))=(decide (0<i)&&decide (fE (l.getD (i-1) default) e=0)):=by
 rw[aa4]
 have h1:decide ((0:Int)<i)=decide (0<i):=decide_eq_decide.2 (by omega)
 rw[h1]; rfl
abbrev h1(l:List Elem):Hz:=[(0,some (eH l))]
def Ut(l:List Elem)(k:Nat):List Elem:=l.take k++l.getD k default::l.drop k
theorem WZ(l:List Elem)(k:Nat):(Ut l k).length=l.length+1:=by simp[Ut]; omega
theorem aa5{l:List Elem}{k:Nat}(h:k<=l.length)(x:Elem):(Ut l k).set k x=l.take k++x::l.drop k:=by
 unfold Ut
 rw[List.set_append_right _ _ (by simp; omega)]
 simp[Nat.min_eq_left h]
theorem ac4{l:List Elem}{k:Nat}(h:k<l.length):(Ut l (k+1)).getD k default=l.getD k default:=by
 unfold Ut
 rw[List.getD_eq_getElem?_getD,List.getElem?_append_left (by simp; omega),List.getElem?_take_of_lt (by omega),List.getD_eq_getElem?_getD]
theorem aa6{l:List Elem}{k:Nat}(h:k<l.length):(Ut l (k+1)).set (k+1) ((Ut l (k+1)).getD k default)=Ut l k:=by
 rw[aa5 (by omega),ac4 h]
 unfold Ut
 rw[List.take_add_one,List.append_assoc,dU default h]
 congr 1
 simp[h]
theorem zero_sub(l:List Elem):bD (eH (Ut l l.length)).ay.l (OV.row 54 3 (.elems l) [V.agg (YB [T.int 0,T.nil])]).ay.l:=by
 intro Z h
 have e:(eH (Ut l l.length)).ay.l=l.map fD++[fD default]:=by
  simp[OV.ay,Rw.aS,V.aS,Ut]
 rw[e]
 refine nZ (aP _) ?_
 refine⟨?_,trivial⟩
 show T.sub Z h (.agg [.int 0,.sl 0 false []]) (.agg [.int 0,.sl 0 true []])
 simp[T.sub,T.dP]
theorem afc{l:List Elem}{n:Nat}(hn:0<n):Hz.get n (h1 l)=none:=by
 show(bif Nat.beq 0 n then some (eH l) else none)=none
 rw[agO,if_neg (by omega)]
theorem S.wU(l:List Elem)(e:Elem)(n:Nat)(hn:0<n)(hl:l.length<2^30)(hs:eF l)(he:e.counts.length<2^30) :
  aV Tryz.prog 53 (V.aS [.own 0,.dat (.elem e)]) (h1 l).au n (fun t hp=>(tH l e=true/\t= .own 0/\hp=(h1 l).au)\/(tH l e=false/\t= .own n/\hp=Hz.au [(n,some (eH (nR l e)))])):=by
 refine pO.of (nx:=1) Bd.wU (by simp) ?_ rfl rfl ?_
 ·cases h:tH l e
  ·exact⟨_,_,.inr ⟨rfl,rfl,rfl⟩⟩
  ·exact⟨_,_,.inl ⟨rfl,rfl,rfl⟩⟩
 conv=>whnf
 refine aB.same [0,3] (fun i:Nat=>[(5,.int i)]) (fun i=>i<=l.length/\uU l e l.length=uU l e i) (fun i=>i) l.length rfl (by decide) rfl (fun _=>rfl) ⟨by omega,rfl⟩ ⟨⟨_,rfl,rfl⟩,trivial⟩ ?_
 conv=>whnf
 refine⟨rfl,?_⟩
 rintro i ⟨hi,hpos⟩
 conv=>whnf
 repeat(refine VC.mk (by first|exact fun h=>⟨h,h⟩|(intro h; (repeat' apply And.intro)<;>first|exact h|omega|(simp only[Rw.nO]; omega)|(simp only[Rw.rng]; omega))|(simp only[Rw.rng] at *; first|omega|(simp_all; done)|(simp_all; omega))) ?_; conv=>whnf)
 refine ah.dM (fun _=>S.lM _ _ (by first|exact hs.get _|(have:=hs.get ((i:Int)-1).toNat; omega)) (by omega)) rfl ?_
 conv=>whnf
 repeat(refine VC.mk id ?_; conv=>whnf)
 refine⟨fun h3=>?_,fun h3=>?_⟩
 ·rw[gtP] at h3
  obtain⟨h4,h5⟩:=h3
  conv=>whnf
  refine .mk (by simp only[okI] at *; first|omega|(simp_all; done)|(simp_all; omega)) ?_
  conv=>whnf
  refine⟨i-1,⟨by omega,?_⟩,by omega,⟨⟨_,rfl,?_⟩,trivial⟩,?_,rfl⟩
  ·rw[hpos]
   obtain⟨k,rfl⟩: ∃ k,i=k+1:=⟨i-1,by omega⟩
   simp only[uU,Nat.add_sub_cancel] at h5 ⊢
   rw[if_pos h5]
  ·show T.int ((i-1:Nat):Int)=T.int ((i:Int)-1)
   congr 2; omega
  ·repeat' (first|exact trivial|exact⟨_,rfl,rfl⟩|constructor)
 ·rw[Bool.eq_false_iff,ne_eq,gtP] at h3
  have hp:uU l e l.length=i:=by
   rw[hpos]
   cases i with
   |zero=>rfl
   |succ k=>simp only[uU]; rw[if_neg (fun h=>h3 ⟨by omega,by simpa using h⟩)]
  clear hpos h3
  subst hp
  conv=>whnf
  repeat(refine VC.mk (by first|exact fun h=>⟨h,h⟩|(intro h; (repeat' apply And.intro)<;>first|exact h|omega|(simp only[Rw.nO]; omega)|(simp only[Rw.rng]; omega))|(simp only[Rw.rng] at *; first|omega|(simp_all; done)|(simp_all; omega))) ?_; conv=>whnf)
  refine ah.dM (fun _=>S.lM _ _ (hs.get _) (by omega)) rfl ?_
  conv=>whnf
  repeat(refine VC.mk id ?_; conv=>whnf)
  rw[eqP]
  refine⟨fun h3=>?_,fun h3=>?_⟩
  ·conv=>whnf
   refine nP.one (c:=0) (j:=0) (o:=eH l) (t:=.own 0) rfl rfl rfl (fun _=>rfl) (.inl rfl) rfl (.eq rfl) (.inl ⟨h3,rfl,rfl⟩)
  ·conv=>whnf
   repeat(refine VC.mk (by first|(show(l.length+(0+1))*32<=140737488355328/\l.length+(0+1)<=1152921504606846976; omega)|(show okI ((l.length:Int)+((0+1:Nat):Int)-1); simp only[okI]; omega)) ?_; conv=>whnf)
   refine aB.objs 3 [3,5] (fun k:Nat=>[(0,.own 2),(6,.int k)]) (fun k=>[(1,.box 54 3 (.dat (.elem e))),(2,eH (Ut l k))]) (fun k=>uU l e l.length<=k/\k<=l.length) (fun k=>k) l.length [1,33] rfl (by decide) (fun _=>rfl) ⟨hi,Nat.le_refl _⟩ ?_ ?_ ?_
   ·refine⟨⟨_,rfl,.eq rfl⟩,⟨_,rfl,.eq ?_⟩,trivial⟩
    show T.int (l.length:Int)=T.int ((l.length:Int)+((0+1:Nat):Int)-1)
    congr 2; omega
   ·refine⟨⟨rfl,nofun,rfl,rfl,rfl,_,rfl,rfl,rfl,.refl _⟩,⟨rfl,nofun,rfl,rfl,rfl,_,rfl,rfl,rfl,zero_sub l⟩,trivial⟩
   ·conv=>whnf
    refine⟨(sR rfl),rfl,?_⟩
    rintro k ⟨hk1,hk2⟩
    conv=>whnf
    refine⟨fun h4=>?_,fun h4=>?_⟩
    ·have h5:uU l e l.length<k:=by simpa using h4
     obtain⟨k,rfl⟩: ∃ j,k=j+1:=⟨k-1,by omega⟩
     have e1:((((k+1:Nat):Int))-1).toNat=k:=by omega
     have e2:(((k+1:Nat):Int)).toNat=k+1:=rfl
     conv=>whnf
     repeat(refine VC.mk (by simp only[Rw.rng,WZ,okI]; omega) ?_; conv=>whnf)
     refine⟨k,[1,2],⟨by omega,by omega⟩,by omega,⟨⟨_,rfl,.eq rfl⟩,⟨_,rfl,.eq ?_⟩,trivial⟩,(sR rfl),⟨rfl,nofun,rfl,rfl,rfl,_,rfl,rfl,rfl,.refl _⟩,⟨rfl,nofun,rfl,rfl,rfl,_,rfl,rfl,rfl,?_⟩,trivial⟩
     ·show T.int (k:Int)=T.int (((k+1:Nat):Int)-1)
      congr 2; omega
     ·rw[e1,e2,aa6 (by omega)]; exact .refl _
    ·have hk:k=uU l e l.length:=by
      have: ¬ uU l e l.length<k:=by simpa using h4
      omega
     clear h4
     conv=>whnf
     refine ah.pure (S.uD e (by omega)) rfl ?_
     conv=>whnf
     repeat(refine VC.mk (by simp only[Rw.rng,WZ]; omega) ?_; conv=>whnf)
     refine nP.one (c:=n) (j:=2) (o:=eH ((Ut l k).set (uU l e l.length:Int).toNat e)) (t:=.own n) rfl rfl rfl ?_ (.inr rfl) rfl (.eq rfl) (.inr ⟨h3,rfl,?_⟩)
     ·rw[afc hn]; intro h; cases h
     ·have:(Ut l k).set (uU l e l.length:Int).toNat e=nR l e:=by
       rw[nR,if_neg (by rw[show tH l e=false from h3]; simp)]
       rw[hk]; exact aa5 (by omega) e
      rw[this]
theorem aa7{l:List Elem}{e:Elem}:(nR l e).length<=l.length+1:=by
 unfold nR; split
 ·omega
 ·simp; have:=I8 (l:=l) (e:=e) l.length; omega
theorem aa8{l:List Elem}{e x:Elem}(h:x∈nR l e):x=e\/x∈l:=by
 unfold nR at h; split at h
 ·exact .inr h
 ·simp only[List.mem_append,List.mem_cons] at h
  rcases h with h|h|h
  ·exact .inr (List.mem_of_mem_take h)
  ·exact .inl h
  ·exact .inr (List.mem_of_mem_drop h)
theorem aah: ∀ (l acc:List Elem),(l.foldl nR acc).length<=acc.length+l.length:=by
 intro l
 induction l with
 |nil=>intro acc; simp
 |cons x l ih=>intro acc; simp only[List.foldl_cons,List.length_cons]; have:=ih (nR acc x); have:=aa7 (l:=acc) (e:=x); omega
theorem aai: ∀ (l acc:List Elem) (x:Elem),x∈l.foldl nR acc->x∈acc\/x∈l:=by
 intro l
 induction l with
 |nil=>intro acc x h; exact .inl h
 |cons y l ih =>
  intro acc x h
  simp only[List.foldl_cons] at h
  rcases ih _ _ h with h|h
  ·rcases aa8 h with h|h
   ·exact .inr (by simp[h])
   ·exact .inl h
  ·exact .inr (by simp[h])
def uS(l:List Elem):Nat->List Elem
 |0=>[]
 |n+1=>if n=0\/l.getD n default≠l.getD (n-1) default then uS l n++[l.getD n default] else uS l n
theorem I7(l:List Elem): ∀ n,(uS l n).length<=n:=by
 intro n
 induction n with
 |zero=>exact Nat.le_refl _
 |succ n ih =>
  simp only[uS]; split
  ·simp; omega
  ·omega
theorem acG{l:List Elem}{x:Elem}: ∀ {n},x∈uS l n->n<=l.length->x∈l:=by
 intro n
 induction n with
 |zero=>intro h; cases h
 |succ n ih =>
  intro h hn
  simp only[uS] at h
  split at h
  ·rcases List.mem_append.1 h with h|h
   ·exact ih h (by omega)
   ·rw[List.mem_singleton] at h; subst h
    simp[show n<l.length by omega]
  ·exact ih h (by omega)
abbrev zeroV:V:=.agg [.int 0,.row 0 true .nil]
def mid(l:List Elem)(j:Nat):List Elem:=uS l j++l.drop (uS l j).length
theorem acF{l:List Elem}{j:Nat}(h:j<=l.length):(mid l j).length=l.length:=by
 have:=I7 l j
 simp[mid]; omega
theorem Wv{l:List Elem}{j i:Nat}(h:(uS l j).length<=i):(mid l j).getD i default=l.getD i default:=by
 unfold mid
 rw[List.getD_eq_getElem?_getD,List.getElem?_append_right h,List.getElem?_drop,List.getD_eq_getElem?_getD]
 congr 2; omega
theorem acH{l:List Elem}{j:Nat}(hj:j<l.length)(h:j=0\/l.getD j default≠l.getD (j-1) default):(mid l j).set (uS l j).length (l.getD j default)=mid l (j+1):=by
 have hl:=I7 l j
 have e:uS l (j+1)=uS l j++[l.getD j default]:=by simp only[uS]; rw[if_pos h]
 unfold mid
 rw[e,List.set_append_right _ _ (Nat.le_refl _),Nat.sub_self,dU default (show(uS l j).length<l.length by omega)]
 simp
theorem QB{l:List Elem}{j:Nat}(h0:j≠0)(h:l.getD j default=l.getD (j-1) default):uS l (j+1)=uS l j:=by
 simp only[uS]; rw[if_neg]; intro q; rcases q with q|q
 ·exact h0 q
 ·exact q h
theorem JD{l:List Elem}{k:Nat}(hk:k<=l.length)(h: ∀ i,0<i->i<k->l.getD i default≠l.getD (i-1) default):uS l k=l.take k:=by
 induction k with
 |zero=>rfl
 |succ k ih =>
  simp only[uS]
  rw[if_pos,ih (by omega) fun i h1 h2=>h i h1 (by omega),List.take_add_one]
  ·simp[show k<l.length by omega]
  ·by_cases h0:k=0
   ·exact .inl h0
   ·exact .inr (h k (by omega) (by omega))
theorem QC(l:List Elem)(m nx:Nat):(OV.row 54 3 (.elems l) (List.replicate m zeroV)).good nx=true:=by
 have h1:GH 3 (List.replicate m zeroV)=true:=by
  induction m with
  |zero=>rfl
  |succ m ih=>simp only[List.replicate_succ,GH,ih,Bool.and_true]; rfl
 have h2:T.Qo nx (V.aS (List.replicate m zeroV))=true:=by
  clear h1
  induction m with
  |zero=>rfl
  |succ m ih=>simp only[List.replicate_succ,V.aS,T.Qo,ih,Bool.and_true]; rfl
 simp only[OV.good,h1,h2]; rfl
theorem OI(l:List Elem)(m:Nat):(OV.row 54 3 (.elems l) (List.replicate m zeroV)).Ig=true:=by
 simp only[OV.Ig]
 induction m with
 |zero=>rfl
 |succ m ih=>simp only[List.replicate_succ,V.dJ,ih,Bool.and_true]; rfl
def sQ(l:List Elem):List Elem:=uS l l.length
theorem S.YC:aj Tryz.prog 140 [.raw (.lit (.int .u64 0))] (.int 0):=by
 refine aj.of Bd.uV (by simp) rfl rfl ?_
 conv=>whnf
 refine Fork.mk (fun q=>absurd (q.symm.trans ((rfl:decide ((4294967296:Int)<=0)=false))).symm Bool.false_ne_true) (fun _=>?_)
 conv=>whnf
 refine Fork.mk (fun q=>absurd (q.symm.trans ((rfl:decide ((65536:Int)<=0)=false))).symm Bool.false_ne_true) (fun _=>?_)
 conv=>whnf
 refine Fork.mk (fun q=>absurd (q.symm.trans ((rfl:decide ((256:Int)<=0)=false))).symm Bool.false_ne_true) (fun _=>?_)
 conv=>whnf
 refine .mk (by omega) ?_
 conv=>whnf
 repeat(refine VC.mk (by constructor<;>decide) ?_; conv=>whnf)
 exact ak.int (by decide)
theorem S.bitsLen:aj Tryz.prog 110 [.raw (.lit (.int .u64 0))] (.int 0):=by
 refine aj.of Bd.yC (by simp) rfl rfl ?_
 conv=>whnf
 refine Fork.mk (fun q=>absurd (q.symm.trans ((rfl:false=false))).symm Bool.false_ne_true) (fun _=>?_)
 conv=>whnf
 refine ah.pure (S.YC) rfl ?_
 conv=>whnf
 exact ak.int rfl
theorem S.Vb(n:Nat):aV Tryz.prog 131 (V.aS [.own 0,.int 0,.int 0,.fn 45 []]) (h1 []).au n (fun t hp=>t= .gW []/\hp=(h1 []).au):=by
 refine pO.of (nx:=1) (h0:=h1 []) Bd.dK (by simp) ⟨_,_,rfl,rfl⟩ rfl rfl ?_
 conv=>whnf
 refine .mk (by simp only[okI] at *; first|omega|(simp_all; done)|(simp_all; omega)) ?_
 conv=>whnf
 refine aB.times 1 rfl ?_
 conv=>whnf
 refine Fork.mk (fun q=>absurd (q.symm.trans ((rfl:decide ((0:Int)+1<0)=false))).symm Bool.false_ne_true) (fun _=>?_)
 conv=>whnf
 exact nP.one (c:=0) (j:=0) (o:=eH []) (t:=.gW []) rfl rfl rfl (fun _=>rfl) (.inl rfl) trivial (.eq rfl) ⟨rfl,rfl⟩
theorem S.ahR(n:Nat):aV Tryz.prog 109 (V.aS [.own 0,.int 0,.int 0,.int 0,.fn 45 []]) (h1 []).au n (fun t hp=>t= .gW []/\hp=(h1 []).au):=by
 refine pO.of (nx:=1) (h0:=h1 []) Bd.eX (by simp) ⟨_,_,rfl,rfl⟩ rfl rfl ?_
 conv=>whnf
 refine aB.times 1 rfl ?_
 conv=>whnf
 refine .mk (by simp only[okI] at *; first|omega|(simp_all; done)|(simp_all; omega)) ?_
 conv=>whnf
 refine Fork.mk (fun _=>?_) (fun q=>absurd (q.symm.trans ((rfl:decide ((0:Int)-0<=12)=true))) Bool.false_ne_true)
 conv=>whnf
 refine ah.heap (S.Vb _) (fun t hp ⟨e1,e2⟩=>⟨.gW [],h1 [],e1,e2,?_⟩)
 conv=>whnf
 exact nP.one (c:=0) (j:=0) (o:=eH []) (t:=.gW []) rfl rfl rfl (fun _=>rfl) (.inl rfl) trivial (.eq rfl) ⟨rfl,rfl⟩
theorem S.ac5(n:Nat):aV Tryz.prog 78 (V.aS [.own 0,.fn 45 []]) (h1 []).au n (fun t hp=>t= .gW []/\hp=(h1 []).au):=by
 refine pO.of (nx:=1) (h0:=h1 []) Bd.bM (by simp) ⟨_,_,rfl,rfl⟩ rfl rfl ?_
 conv=>whnf
 refine .mk (by simp only[List.length_nil]; omega) ?_
 conv=>whnf
 refine ah.pure (S.bitsLen) rfl ?_
 conv=>whnf
 refine ah.heap (S.ahR _) (fun t hp ⟨e1,e2⟩=>⟨.gW [],h1 [],e1,e2,?_⟩)
 conv=>whnf
 exact nP.one (c:=0) (j:=0) (o:=eH []) (t:=.gW []) rfl rfl rfl (fun _=>rfl) (.inl rfl) trivial (.eq rfl) ⟨rfl,rfl⟩
theorem YD: ∀ a b:List Int,cmpL b a= -cmpL a b:=by
 intro a
 induction a with
 |nil=>intro b; cases b<;>rfl
 |cons x a ih =>
  intro b
  cases b with
  |nil=>rfl
  |cons y b =>
   simp only[cmpL]
   by_cases h1:x<y
   ·have h2: ¬ y<x:=by omega
    simp[h1,h2]
   ·by_cases h2:y<x
    ·simp[h1,h2]
    ·simp[h1,h2,ih]
theorem qP(a b:Elem):fE b a= -fE a b:=by
 simp only[fE]
 by_cases h1:a.value<b.value
 ·have h2: ¬ b.value<a.value:=by omega
  simp[h1,h2]
 ·by_cases h2:b.value<a.value
  ·simp[h1,h2]
  ·simp[h1,h2,YD a.counts b.counts]
theorem Vd: ∀ {a b c:List Int},cmpL a b<0->cmpL b c<0->cmpL a c<0:=by
 intro a
 induction a with
 |nil =>
  intro b c h1 h2
  cases b with
  |nil=>simp[cmpL] at h1
  |cons y b=>cases c with
   |nil=>simp[cmpL] at h2
   |cons z c=>simp[cmpL]
 |cons x a ih =>
  intro b c h1 h2
  cases b with
  |nil=>simp[cmpL] at h1
  |cons y b=>cases c with
   |nil=>simp[cmpL] at h2
   |cons z c =>
    simp only[cmpL] at h1 h2 ⊢
    by_cases a1:x<y
    ·by_cases a2:y<z
     ·rw[if_pos (by omega)]; omega
     ·by_cases a3:z<y
      ·simp[a2,a3] at h2
      ·rw[if_pos (by omega)]; omega
    ·by_cases a4:y<x
     ·simp[a1,a4] at h1
     ·simp only[a1,a4,if_false] at h1
      have e:x=y:=by omega
      subst e
      by_cases a2:x<z
      ·simp[a2]
      ·by_cases a3:z<x
       ·simp[a2,a3] at h2
       ·simp only[a2,a3,if_false] at h2 ⊢
        exact ih h1 h2
theorem wP{a b c:Elem}(h1:fE a b<0)(h2:fE b c<0):fE a c<0:=by
 simp only[fE] at h1 h2 ⊢
 by_cases a1:a.value<b.value
 ·by_cases a2:b.value<c.value
  ·rw[if_pos (by omega)]; omega
  ·by_cases a3:c.value<b.value
   ·simp[a2,a3] at h2
   ·rw[if_pos (by omega)]; omega
 ·by_cases a4:b.value<a.value
  ·simp[a1,a4] at h1
  ·simp only[a1,a4,if_false] at h1
   by_cases a2:b.value<c.value
   ·rw[if_pos (by omega)]; omega
   ·by_cases a3:c.value<b.value
    ·simp[a2,a3] at h2
    ·simp only[a2,a3,if_false] at h2
     rw[if_neg (by omega),if_neg (by omega)]
     exact Vd h1 h2
theorem D5{a b c:Elem}(h1: ¬ fE b a<0)(h2: ¬ fE c b<0): ¬ fE c a<0:=by
 rw[qP a b] at h1
 rw[qP b c] at h2
 rw[qP a c]
 by_cases e1:fE a b=0
 ·rw[iW] at e1; subst e1; exact h2
 ·by_cases e2:fE b c=0
  ·rw[iW] at e2; subst e2; exact h1
  ·have:=wP (a:=a) (b:=b) (c:=c) (by omega) (by omega)
   omega
def FN(l:List Elem):Prop:=l.Pairwise fun a b=> ¬ fE b a<0
def Ve(e:Elem):List Elem->List Elem
 |[]=>[e]
 |x::r=>if fE x e<0 then x::Ve e r else e::x::r
def rM(l:List Elem):List Elem:=l.foldr Ve []
theorem NJ(e:Elem): ∀ l,(Ve e l).Perm (e::l):=by
 intro l
 induction l with
 |nil=>exact .refl _
 |cons x r ih =>
  simp only[Ve]; split
  ·exact((ih.cons x).trans (.swap e x r))
  ·exact .refl _
theorem wX: ∀ l,(rM l).Perm l:=by
 intro l
 induction l with
 |nil=>exact .refl _
 |cons x r ih=>exact(NJ x _).trans (ih.cons x)
theorem aa9(e:Elem): ∀ l,FN l->FN (Ve e l):=by
 intro l
 induction l with
 |nil=>intro _; simp[FN,Ve]
 |cons x r ih =>
  intro h
  have h':=h
  simp only[FN,List.pairwise_cons] at h
  simp only[Ve]
  split
  ·rename_i hlt
   simp only[FN,List.pairwise_cons]
   refine⟨fun y hy=>?_,ih h.2⟩
   rcases List.mem_cons.1 ((NJ e r).mem_iff.1 hy) with rfl|hy
   ·rw[qP]; omega
   ·exact h.1 y hy
  ·rename_i hge
   simp only[FN,List.pairwise_cons]
   refine⟨fun y hy=>?_,h⟩
   rcases List.mem_cons.1 hy with rfl|hy
   ·exact hge
   ·exact D5 hge (h.1 y hy)
theorem Dq: ∀ l,FN (rM l):=by
 intro l
 induction l with
 |nil=>simp[FN,rM]
 |cons x r ih=>exact aa9 x _ ih
theorem Vf: ∀ {a b:List Elem},a.Perm b->FN a->FN b->a=b:=by
 intro a
 induction a with
 |nil=>intro b hp _ _; exact hp.nil_eq
 |cons x a ih =>
  intro b hp ha hb
  cases b with
  |nil=>exact absurd hp.symm (by simp)
  |cons y b =>
   have h1:=ha; have h2:=hb
   simp only[FN,List.pairwise_cons] at h1 h2
   have hxy:x=y:=by
    by_cases e:x=y
    ·exact e
    ·have hx:x∈b:=by
      rcases List.mem_cons.1 (hp.mem_iff.1 (by simp:x∈x::a)) with h|h
      ·exact absurd h e
      ·exact h
     have hy:y∈a:=by
      rcases List.mem_cons.1 (hp.mem_iff.2 (by simp:y∈y::b)) with h|h
      ·exact absurd h.symm e
      ·exact h
     have g1:=h1.1 y hy
     have g2:=h2.1 x hx
     rw[qP] at g1
     have:fE x y=0:=by omega
     exact iW.1 this
   subst hxy
   rw[ih (List.Perm.cons_inv hp) h1.2 h2.2]
def D6:T->Elem
 | .agg [.lit (.int _ v),.sl _ _ l]=>⟨v,l.map yD⟩
 |_=>default
theorem Je(e:Elem):D6 (fD e)=e:=by
 obtain⟨v,c⟩:=e
 simp only[fD,D6]
 congr 1
 rw[List.map_map]
 conv=>rhs; rw[<- List.map_id c]
 exact List.map_congr_left fun x _=>rfl
theorem S.ahS{x y:Elem}(hx:x.counts.length<2^40)(hy:y.counts.length<2^40):uZ Tryz.prog 45 [fD x,fD y] (.int (fE x y)):=S.iI x y hx hy
theorem abb(l:List Elem):(h1 l).au=upd no 0 (some ⟨54,3,l.map fD⟩):=by
 show Hz.au ((0,some (eH l))::[])=_
 rw[bG]
 simp[eH,OV.ay,Rw.aS,V.aS]; rfl
theorem afd: ∀ w,(isAgg 54).run Tryz.prog w= .ok true w:=fun w=>tN (k:=3) (by kernel_rfl)
theorem agP: ∀ w,(Go.sizeOf 54).run Tryz.prog w= .ok 2 w:=fun w=>iw (k:=3) (by kernel_rfl)
theorem S.SortFunc(l:List Elem)(n:Nat)(hl:l.length<2^30)(hs:eF l) :
  aV Tryz.prog 78 (V.aS [.own 0,.fn 45 []]) (h1 l).au n (fun t hp=>t= .gW []/\hp=(h1 (rM l)).au):=by
 by_cases hne:l=[]
 ·subst hne
  exact S.ac5 n
 ·have hx: ∀ t∈l.map fD,∃ e∈l,t=fD e:=fun t ht=>by obtain⟨e,he,rfl⟩:=List.mem_map.1 ht; exact⟨e,he,rfl⟩
  have H:=aV.sort (n:=n) Tryz.laySort 2 (by decide) afd agP (by exact Bd.bM.cl) (g:=45) (by decide) (by exact Bd.iI.cl) (l:=l.map fD) (by simpa using hne)
   (fun t ht=>by obtain⟨e,_,rfl⟩:=hx t ht; rfl) (wI l) (by simp; omega) (fun x y=>fE (D6 x) (D6 y))
   (fun t ht=>by rw[iW.2 rfl]; decide)
   (fun x _ y _ z _ h1 h2=>wP h1 h2)
   (fun x _ y _ z _ h1 h2=>D5 h2 h1)
   (fun x hx1 y hy1=>by
    obtain⟨a,ha,rfl⟩:=hx x hx1
    obtain⟨b,hb,rfl⟩:=hx y hy1
    simp only[Je]; exact S.ahS (hs a ha) (hs b hb))
   (by decide) ⟨(rM l).map fD,(wX l).map fD,by
    rw[List.pairwise_map]; simp only[Je]; exact Dq l⟩ (h:=(h1 l).au) (i:=0) (ty:=54) (by rw[abb]; rfl)
  refine aV.mono H ?_
  rintro t hp ⟨rfl,l',hp',hpw,rfl⟩
  refine⟨rfl,?_⟩
  have hl':l'=(l'.map D6).map fD:=by
   rw[List.map_map]
   conv=>lhs; rw[<- List.map_id l']
   refine List.map_congr_left fun t ht=>?_
   obtain⟨e,_,rfl⟩:=hx t (hp'.mem_iff.1 ht)
   simp[Je]
  have hperm:(l'.map D6).Perm l:=by
   have:=hp'.map D6
   rw[List.map_map] at this
   have e:l.map (D6 ∘ fD)=l:=by
    conv=>rhs; rw[<- List.map_id l]
    exact List.map_congr_left fun e _=>Je e
   rw[e] at this; exact this
  have hsrt:FN (l'.map D6):=by
   unfold FN; rw[List.pairwise_map]; exact hpw
  have heq:l'.map D6=rM l:=Vf (hperm.trans (wX l).symm) hsrt (Dq l)
  rw[abb,abb]
  rw[hl',heq]
  funext j
  simp only[upd]; split<;>rfl
def uy(l:List Elem):List Elem:=sQ (rM l)
theorem GV(l:List Elem):(rM l).length=l.length:=(wX l).length_eq
theorem QD{l:List Elem}(h:eF l):eF (rM l):=fun e he=>h e ((wX l).mem_iff.1 he)
theorem ak.aeR{h:Hz}{j m:Nat}{l:List Elem}(q:h.get j=some (.row 54 3 (.elems l) (List.replicate m zeroV))):ak (.row 3 false (.elems l)) (.qN j 0 l.length) h:=⟨by
 show T.sub (fun _=>True) h.au (.sl 3 false (l.map fD)) (.qN j 0 l.length)
 simp only[T.sub]
 refine⟨trivial,trivial,wI l,by decide,54,l.map fD++V.aS (List.replicate m zeroV),?_,by simp,by simp⟩
 exact aO q⟩
def SS(l:List Elem):Prop:=l.Pairwise fun a b=>fE a b<0
theorem GY: ∀ {a b:List Elem},SS a->SS b->(∀ x,x∈a↔x∈b)->a=b:=by
 intro a
 induction a with
 |nil =>
  intro b _ _ h
  cases b with
  |nil=>rfl
  |cons y b=>exact absurd ((h y).2 (by simp)) (by simp)
 |cons x a ih =>
  intro b ha hb h
  cases b with
  |nil=>exact absurd ((h x).1 (by simp)) (by simp)
  |cons y b =>
   simp only[SS,List.pairwise_cons] at ha hb
   have hself: ∀ z:Elem,¬ fE z z<0:=fun z=>by rw[iW.2 rfl]; decide
   have hxy:x=y:=by
    rcases List.mem_cons.1 ((h x).1 (by simp)) with e|hx
    ·exact e
    ·rcases List.mem_cons.1 ((h y).2 (by simp)) with e|hy
     ·exact e.symm
     ·exact absurd (wP (ha.1 y hy) (hb.1 x hx)) (hself x)
   subst hxy
   rw[ih ha.2 hb.2 fun z=>?_]
   constructor
   ·intro hz
    rcases List.mem_cons.1 ((h z).1 (by simp[hz])) with e|h'
    ·subst e; exact absurd (ha.1 z hz) (hself z)
    ·exact h'
   ·intro hz
    rcases List.mem_cons.1 ((h z).2 (by simp[hz])) with e|h'
    ·subst e; exact absurd (hb.1 z hz) (hself z)
    ·exact h'
theorem NK{l:List Elem}(hs:FN l): ∀ n,n<=l.length->SS (uS l n)/\(∀ x,x∈uS l n↔x∈l.take n)/\(∀ x∈uS l n,n<l.length-> ¬ fE (l.getD n default) x<0):=by
 intro n
 induction n with
 |zero=>intro _; exact⟨by simp[SS,uS],by simp[uS],by simp[uS]⟩
 |succ n ih =>
  intro hn
  obtain⟨h1,h2,h3⟩:=ih (by omega)
  have hnl:n<l.length:=by omega
  have hmono: ∀ i j,i<=j->j<l.length-> ¬ fE (l.getD j default) (l.getD i default)<0:=by
   intro i j hij hj
   by_cases e:i=j
   ·subst e; rw[iW.2 rfl]; decide
   ·have:=List.pairwise_iff_getElem.1 hs i j (by omega) hj (by omega)
    simpa [hj,show i<l.length by omega] using this
  have htake: ∀ x,x∈l.take n-> ∃ i,i<n/\l.getD i default=x:=by
   intro x hx
   rw[List.mem_take_iff_getElem] at hx
   obtain⟨i,hi,e⟩:=hx
   exact⟨i,by omega,by rw[<- e]; simp[show i<l.length by omega]⟩
  have hlast:l.take (n+1)=l.take n++[l.getD n default]:=by
   rw[List.take_add_one]; simp[hnl]
  simp only[uS]
  split
  ·rename_i hc
   refine⟨?_,?_,?_⟩
   ·simp only[SS,List.pairwise_append]
    refine⟨h1,by simp,fun x hx y hy=>?_⟩
    rw[List.mem_singleton] at hy; subst hy
    have hge:=h3 x hx hnl
    rw[qP] at hge
    have hne:fE x (l.getD n default)≠0:=by
     intro e
     rw[iW] at e
     rcases hc with hc|hc
     ·subst hc; simp[uS] at hx
     ·obtain⟨i,hi,hix⟩:=htake x ((h2 x).1 hx)
      have g1:=hmono i (n-1) (by omega) (by omega)
      have g2:=hmono (n-1) n (by omega) hnl
      rw[hix,e] at g1
      rw[qP] at g1
      have:fE (l.getD n default) (l.getD (n-1) default)=0:=by omega
      exact hc (iW.1 this)
    omega
   ·intro x
    rw[hlast]
    simp only[List.mem_append,h2]
   ·intro x hx hn1
    rcases List.mem_append.1 hx with hx|hx
    ·obtain⟨i,hi,hix⟩:=htake x ((h2 x).1 hx)
     rw[<- hix]; exact hmono i (n+1) (by omega) hn1
    ·rw[List.mem_singleton] at hx; subst hx
     exact hmono n (n+1) (by omega) hn1
  ·rename_i hc
   have hc':n≠0/\l.getD n default=l.getD (n-1) default:=by
    constructor
    ·intro e; exact hc (.inl e)
    ·by_cases e:l.getD n default=l.getD (n-1) default
     ·exact e
     ·exact absurd (.inr e) hc
   refine⟨h1,fun x=>?_,fun x hx hn1=>?_⟩
   ·rw[hlast,h2]
    simp only[List.mem_append,List.mem_singleton]
    constructor
    ·exact .inl
    ·rintro(h|h)
     ·exact h
     ·rw[h,hc'.2]
      rw[List.mem_take_iff_getElem]
      exact⟨n-1,by omega,by simp[show n-1<l.length by omega]⟩
   ·obtain⟨i,hi,hix⟩:=htake x ((h2 x).1 hx)
    rw[<- hix]; exact hmono i (n+1) (by omega) hn1
theorem uz(l:List Elem):SS (uy l):=(NK (Dq l) _ (Nat.le_refl _)).1
theorem oP(l:List Elem)(x:Elem):x∈uy l↔x∈l:=by
 unfold uy sQ
 rw[(NK (Dq l) _ (Nat.le_refl _)).2.1,List.take_length]
 exact(wX l).mem_iff
theorem YE{l:List Elem}{e:Elem}: ∀ i,i<=l.length->(∀ j,uU l e i<=j->j<i->0<fE (l.getD j default) e)/\(0<uU l e i-> ¬ 0<fE (l.getD (uU l e i-1) default) e):=by
 intro i
 induction i with
 |zero=>intro _; exact⟨fun j _ h=>by omega,fun h=>by simp[uU] at h⟩
 |succ i ih =>
  intro hi
  simp only[uU]
  split
  ·rename_i hc
   obtain⟨h1,h2⟩:=ih (by omega)
   refine⟨fun j hj hji=>?_,h2⟩
   by_cases e:j=i
   ·subst e; exact hc
   ·exact h1 j hj (by omega)
  ·rename_i hc
   exact⟨fun j h1 h2=>by omega,fun _=>by simpa using hc⟩
theorem JY{l:List Elem}{e:Elem}(hs:SS l):SS (nR l e)/\ ∀ x,x∈nR l e↔x=e\/x∈l:=by
 obtain⟨h1,h2⟩:=YE (l:=l) (e:=e) l.length (Nat.le_refl _)
 have hp:=I8 (l:=l) (e:=e) l.length
 have hlt: ∀ i j,i<j->j<l.length->fE (l.getD i default) (l.getD j default)<0:=by
  intro i j hij hj
  have:=List.pairwise_iff_getElem.1 hs i j (by omega) hj hij
  simpa [hj,show i<l.length by omega] using this
 unfold nR
 split
 ·rename_i hf
  simp only[tH,Bool.and_eq_true,decide_eq_true_eq] at hf
  refine⟨hs,fun x=>⟨.inr,?_⟩⟩
  rintro(rfl|h)
  ·have:=iW.1 hf.2
   rw[<- this]
   have hlt':uU l x l.length-1<l.length:=by omega
   simp[hlt']
  ·exact h
 ·rename_i hf
  generalize hpe:uU l e l.length=p at *
  have hle: ∀ i,i<p->fE (l.getD i default) e<0:=by
   intro i hi
   have hlast:fE (l.getD (p-1) default) e<0:=by
    have g1:=h2 (by omega)
    have g2:fE (l.getD (p-1) default) e≠0:=by
     intro e0
     apply hf
     simp only[tH,hpe,Bool.and_eq_true,decide_eq_true_eq]
     exact⟨by omega,e0⟩
    omega
   by_cases e0:i=p-1
   ·subst e0; exact hlast
   ·exact wP (hlt i (p-1) (by omega) (by omega)) hlast
  have hge: ∀ j,p<=j->j<l.length->fE e (l.getD j default)<0:=by
   intro j hj hjl
   have:=h1 j hj hjl
   rw[qP]; omega
  refine⟨?_,fun x=>?_⟩
  ·simp only[SS,List.pairwise_append,List.pairwise_cons]
   refine⟨hs.sublist (List.take_sublist _ _),⟨fun y hy=>?_,hs.sublist (List.drop_sublist _ _)⟩,fun x hx y hy=>?_⟩
   ·rw[List.mem_drop_iff_getElem] at hy
    obtain⟨j,hj,rfl⟩:=hy
    have:=hge (p+j) (by omega) (by omega)
    simpa [show p+j<l.length by omega] using this
   ·rw[List.mem_take_iff_getElem] at hx
    obtain⟨i,hi,rfl⟩:=hx
    have g1:=hle i (by omega)
    rw[show l.getD i default=l[i] by simp[show i<l.length by omega]] at g1
    rcases List.mem_cons.1 hy with rfl|hy
    ·exact g1
    ·rw[List.mem_drop_iff_getElem] at hy
     obtain⟨j,hj,rfl⟩:=hy
     have:=hlt i (p+j) (by omega) (by omega)
     simpa [show p+j<l.length by omega,show i<l.length by omega] using this
  ·simp only[List.mem_append,List.mem_cons]
   constructor
   ·rintro(h|h|h)
    ·exact .inr (List.mem_of_mem_take h)
    ·exact .inl h
    ·exact .inr (List.mem_of_mem_drop h)
   ·rintro(h|h)
    ·exact .inr (.inl h)
    ·rw[<- List.take_append_drop p l,List.mem_append] at h
     rcases h with h|h
     ·exact .inl h
     ·exact .inr (.inr h)
theorem UM: ∀ (l acc:List Elem),SS acc->SS (l.foldl nR acc)/\ ∀ x,x∈l.foldl nR acc↔x∈acc\/x∈l:=by
 intro l
 induction l with
 |nil=>intro acc h; exact⟨h,by simp⟩
 |cons y l ih =>
  intro acc h
  obtain⟨g1,g2⟩:=JY (e:=y) h
  obtain⟨h1,h2⟩:=ih (nR acc y) g1
  refine⟨h1,fun x=>?_⟩
  simp only[List.foldl_cons]
  rw[h2,g2,List.mem_cons]
  constructor
  ·rintro((h|h)|h)
   ·exact .inr (.inl h)
   ·exact .inl h
   ·exact .inr (.inr h)
  ·rintro(h|h|h)
   ·exact .inl (.inr h)
   ·exact .inl (.inl h)
   ·exact .inr h
end Go.Proofs.YtajmbgljnaljiaaGreatDoor
