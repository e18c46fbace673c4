/-
 A part of the proof. No condition.
-/
import Derived.Test.YtkmldgihhaooaaaGreatDoorSb
import Derived.Test.YtkmldgihhaooaaaGreatDoorLg
import Derived.Test.YtkmldgihhaooaaaGreatDoorLe
import Derived.Test.YtkmldgihhaooaaaGreatDoorSc
namespace Go.Proofs.YtkmldgihhaooaaaGreatDoor
open Go.Ab Go.Proofs
set_option maxRecDepth 100000
def o9:List Int->List Int->Bool
 |[],[]=>true
 |x::a,y::b=>decide (x<=y)&&o9 a b
 |_,_=>false
def pR(a b:Elem):Bool:=(a.value==b.value)&&o9 a.counts b.counts
theorem qV: ∀ {a b:List Int},o9 a b=true↔a.length=b.length/\ ∀ j,j<a.length->a.getD j 0<=b.getD j 0:=by
 intro a
 induction a with
 |nil=>intro b; cases b<;>simp[o9]
 |cons x a ih =>
  intro b
  cases b with
  |nil=>simp[o9]
  |cons y b =>
   simp only[o9,Bool.and_eq_true,decide_eq_true_eq,ih,List.length_cons]
   constructor
   ·rintro⟨h1,h2,h3⟩
    refine⟨by omega,fun j hj=>?_⟩
    cases j with
    |zero=>simpa using h1
    |succ j=>simpa using h3 j (by omega)
   ·rintro⟨h1,h2⟩
    exact⟨by simpa using h2 0 (by omega),by omega,fun j hj=>by simpa using h2 (j+1) (by omega)⟩
theorem S.vg(a b:Elem)(ha:a.counts.length<2^40)(_hb:b.counts.length<2^40):aj Tryz.prog 38 [.dat (.elem a),.dat (.elem b)] (.bool (pR a b)):=by
 refine aj.of Bd.vg (by simp) rfl rfl ?_
 conv=>whnf
 repeat(refine VC.mk (by first|exact id|exact fun h=>⟨h,h⟩|(intro h; rw[h]; rfl)) ?_; conv=>whnf)
 refine⟨fun h1=>?_,fun h1=>?_⟩
 ·conv=>whnf
  refine ak.bool ?_
  by_cases hv:a.value=b.value
  ·have:o9 a.counts b.counts=false:=by
    rw[Bool.eq_false_iff]; intro h; rw[qV] at h; simp[hv,h.1] at h1
   simp[pR,this]
  ·simp[pR,hv]
 ·have h2:a.value=b.value/\a.counts.length=b.counts.length:=by
   by_cases hv:a.value=b.value
   ·simp[hv] at h1; exact⟨hv,by omega⟩
   ·simp[hv] at h1
  conv=>whnf
  refine aH.same [3,22,23] (fun i:Nat=>[(24,.int i)]) (fun i=>i<=a.counts.length/\ ∀ j,j<i->a.counts.getD j 0<=b.counts.getD j 0) (fun i=>a.counts.length-i) 0 rfl (by decide) rfl (fun _=>rfl) ⟨by omega,fun j hj=>by omega⟩ ⟨⟨_,rfl,rfl⟩,trivial⟩ ?_
  conv=>whnf
  refine⟨rfl,?_⟩
  rintro i ⟨hi,hall⟩
  conv=>whnf
  refine⟨fun h3=>?_,fun h3=>?_⟩
  ·have hi':i<a.counts.length:=by simpa using h3
   conv=>whnf
   repeat(refine VC.mk (by simp only[Rw.rng] at *; first|omega|(simp_all; done)|(simp_all; omega)) ?_; conv=>whnf)
   refine⟨fun h4=>?_,fun h4=>?_⟩
   ·conv=>whnf
    refine ak.bool ?_
    have:o9 a.counts b.counts=false:=by
     rw[Bool.eq_false_iff]; intro h; rw[qV] at h; have:=h.2 i hi'; simp only[Int.toNat_natCast,decide_eq_true_eq] at h4; omega
    simp[pR,this]
   ·conv=>whnf
    refine .mk (by simp only[okI] at *; first|omega|(simp_all; done)|(simp_all; omega)) ?_
    conv=>whnf
    refine⟨i+1,⟨by omega,fun j hj=>?_⟩,by omega,⟨⟨_,rfl,rfl⟩,trivial⟩,?_,rfl⟩
    ·by_cases e:j=i
     ·subst e; simp only[Int.toNat_natCast,decide_eq_false_iff_not] at h4; omega
     ·exact hall j (by omega)
    ·repeat' (first|exact trivial|exact⟨_,rfl,rfl⟩|constructor)
  ·conv=>whnf
   refine ak.bool ?_
   have hi':a.counts.length<=i:=by simpa using h3
   simp only[pR,Bool.and_eq_true,beq_iff_eq]
   rw[Bool.eq_iff_iff]; simp only[iff_true]
   exact⟨h2.1,qV.2 ⟨h2.2,fun j hj=>hall j (by omega)⟩⟩
def Tm(a b:Int):Int:=if a<b then -1 else if b<a then 1 else 0
def cmpL:List Int->List Int->Int
 |[],[]=>0
 |[],_::_=> -1
 |_::_,[]=>1
 |x::a,y::b=>if x<y then -1 else if y<x then 1 else cmpL a b
def kU(a b:Elem):Int:=if a.value<b.value then -1 else if b.value<a.value then 1 else cmpL a.counts b.counts
theorem cZ{α:Type}{l:List α}{i:Nat}(d:α)(h:i<l.length):l.drop i=l.getD i d::l.drop (i+1):=by
 rw[List.drop_eq_getElem_cons h]; simp[h]
theorem Md{a b:List Int}{i:Nat}(ha:i<a.length)(hb:i<b.length) :
  cmpL (a.drop i) (b.drop i)=if a.getD i 0<b.getD i 0 then -1 else if b.getD i 0<a.getD i 0 then 1 else cmpL (a.drop (i+1)) (b.drop (i+1)):=by
 rw[cZ 0 ha,cZ 0 hb]; rfl
theorem Eu{a b:List Int}{i:Nat}(hi:a.length<=i\/b.length<=i)(h1:i<=a.length)(h2:i<=b.length) :
  cmpL (a.drop i) (b.drop i)=if a.length<b.length then -1 else if b.length<a.length then 1 else 0:=by
 by_cases ha:a.length<=i
 ·have e:a.drop i=[]:=List.drop_eq_nil_of_le ha
  rw[e]
  by_cases hb:b.length<=i
  ·rw[List.drop_eq_nil_of_le hb,if_neg (by omega),if_neg (by omega)]; rfl
  ·rw[cZ 0 (by omega),if_pos (by omega)]; rfl
 ·have hb:b.length<=i:=by omega
  rw[List.drop_eq_nil_of_le hb,cZ 0 (by omega),if_neg (by omega),if_pos (by omega)]; rfl
theorem S.cmp_isNaN_int(a:Int):aj Tryz.prog 142 [.int a] (.bool false):=by
 refine aj.of Bd.cmp_isNaN_int (by simp) rfl rfl ?_
 conv=>whnf
 refine ak.bool ?_
 simp
theorem S.cmp_Compare_int(a b:Int):aj Tryz.prog 126 [.int a,.int b] (.int (Tm a b)):=by
 refine aj.of Bd.cmp_Compare_int (by simp) rfl rfl ?_
 conv=>whnf
 refine ah.pure (S.cmp_isNaN_int a) rfl ?_
 conv=>whnf
 refine ah.pure (S.cmp_isNaN_int b) rfl ?_
 conv=>whnf
 refine Fork.mk (fun h1=>by cases h1) (fun _=>?_)
 conv=>whnf
 refine Fork.mk (fun h1=>by cases h1) (fun _=>?_)
 conv=>whnf
 refine⟨fun h1=>?_,fun h1=>?_⟩
 ·conv=>whnf
  exact ak.int (by simp only[decide_eq_true_eq] at h1; simp[Tm,h1])
 ·conv=>whnf
  simp only[decide_eq_false_iff_not] at h1
  refine⟨fun h2=>?_,fun h2=>?_⟩
  ·conv=>whnf
   exact ak.int (by simp only[decide_eq_true_eq] at h2; simp[Tm,h1,h2])
  ·conv=>whnf
   exact ak.int (by simp only[decide_eq_false_iff_not] at h2; simp[Tm,h1,h2])
theorem S.Jh(a b:List Int)(ha:a.length<2^40)(hb:b.length<2^40):aj Tryz.prog 127 [.row 0 false (.ints a),.row 0 false (.ints b)] (.int (cmpL a b)):=by
 refine aj.of Bd.lq (by simp) rfl rfl ?_
 conv=>whnf
 refine aH.same [0,1,9,10] (fun i:Nat=>[(11,.int i)]) (fun i=>i<=a.length/\i<=b.length/\cmpL a b=cmpL (a.drop i) (b.drop i)) (fun i=>a.length-i) 0 rfl (by decide) rfl (fun _=>rfl) ⟨by omega,by omega,rfl⟩ ⟨⟨_,rfl,rfl⟩,trivial⟩ ?_
 conv=>whnf
 refine⟨rfl,?_⟩
 rintro i ⟨hi,hj,he⟩
 conv=>whnf
 refine⟨fun h3=>?_,fun h3=>?_⟩
 ·have hi':i<a.length:=by simpa using h3
  conv=>whnf
  refine .mk (by simp only[Rw.rng] at *; first|omega|(simp_all; done)|(simp_all; omega)) ?_
  conv=>whnf
  refine⟨fun h4=>?_,fun h4=>?_⟩
  ·conv=>whnf
   have hb':b.length<=i:=by simpa using h4
   refine ak.int ?_
   rw[he,Eu (.inr hb') hi hj,if_neg (by omega),if_pos (by omega)]
  ·have hb':i<b.length:=by simpa using h4
   conv=>whnf
   refine .mk (by simp only[Rw.rng] at *; first|omega|(simp_all; done)|(simp_all; omega)) ?_
   conv=>whnf
   refine ah.pure (S.cmp_Compare_int _ _) rfl ?_
   rw[Md hi' hb'] at he
   conv=>whnf
   simp only[Int.toNat_natCast]
   refine⟨fun h5=>?_,fun h5=>?_⟩
   ·conv=>whnf
    refine ak.int ?_
    rw[he]
    simp only[bne_iff_ne,ne_eq] at h5 ⊢
    generalize a.getD i 0=x at h5 ⊢
    generalize b.getD i 0=y at h5 ⊢
    unfold Tm at h5 ⊢
    by_cases h6:x<y
    ·simp[h6]
    ·by_cases h7:y<x
     ·simp[h6,h7]
     ·simp[h6,h7] at h5
   ·conv=>whnf
    refine .mk (by simp only[okI] at *; first|omega|(simp_all; done)|(simp_all; omega)) ?_
    conv=>whnf
    have h6: ¬ a.getD i 0<b.getD i 0/\ ¬ b.getD i 0<a.getD i 0:=by
     simp only[bne_eq_false_iff_eq] at h5
     generalize a.getD i 0=x at h5 ⊢
     generalize b.getD i 0=y at h5 ⊢
     unfold Tm at h5
     by_cases h6:x<y
     ·simp[h6] at h5
     ·by_cases h7:y<x
      ·simp[h6,h7] at h5
      ·exact⟨h6,h7⟩
    refine⟨i+1,⟨by omega,by omega,by rw[he,if_neg h6.1,if_neg h6.2]⟩,by omega,⟨⟨_,rfl,rfl⟩,trivial⟩,?_,rfl⟩
    repeat' (first|exact trivial|exact⟨_,rfl,rfl⟩|constructor)
 ·have hi':a.length<=i:=by simpa using h3
  conv=>whnf
  refine⟨fun h4=>?_,fun h4=>?_⟩
  ·conv=>whnf
   refine ak.int ?_
   rw[he,Eu (.inl hi') hi hj,if_pos (by simpa using h4)]
  ·conv=>whnf
   refine ak.int ?_
   have:b.length<=a.length:=by simpa using h4
   rw[he,Eu (.inl hi') hi hj,if_neg (by omega),if_neg (by omega)]
theorem S.wz(x y:Int)(f:Bool):aj Tryz.prog 125 [.row 0 f (.ints [x,y])] (.int (if x≠0 then x else y)):=by
 refine aj.of Bd.wz (by simp) rfl rfl ?_
 conv=>whnf
 refine aH.same [3,6,7] (fun i:Nat=>[(8,.int i)]) (fun i=>i<=2/\(0<i->x=0)/\(1<i->y=0)) (fun i=>2-i) 0 rfl (by decide) rfl (fun _=>rfl) ⟨by omega,by omega,by omega⟩ ⟨⟨_,rfl,rfl⟩,trivial⟩ ?_
 conv=>whnf
 refine⟨rfl,?_⟩
 rintro i ⟨hi,h0,h1⟩
 conv=>whnf
 refine⟨fun h3=>?_,fun h3=>?_⟩
 ·have hi':i<2:=by simp at h3; omega
  conv=>whnf
  refine .mk (by simp only[Rw.rng,List.length_cons,List.length_nil]; omega) ?_
  conv=>whnf
  refine⟨fun h4=>?_,fun h4=>?_⟩
  ·conv=>whnf
   refine ak.int ?_
   simp only[Int.toNat_natCast,bne_iff_ne,ne_eq] at h4 ⊢
   by_cases e:i=0
   ·subst e; simp at h4 ⊢; simp[h4]
   ·have:i=1:=by omega
    subst this; simp at h4 ⊢; simp[h0]
  ·conv=>whnf
   refine .mk (by simp only[okI] at *; first|omega|(simp_all; done)|(simp_all; omega)) ?_
   conv=>whnf
   refine⟨i+1,⟨by omega,fun _=>?_,fun hlt=>?_⟩,by omega,⟨⟨_,rfl,rfl⟩,trivial⟩,?_,rfl⟩
   ·by_cases e:i=0
    ·subst e; simpa using h4
    ·exact h0 (by omega)
   ·have:i=1:=by omega
    subst this; simpa using h4
   ·repeat' (first|exact trivial|exact⟨_,rfl,rfl⟩|constructor)
 ·have:i=2:=by simp at h3; omega
  subst this
  conv=>whnf
  refine ak.int ?_
  simp[h0,h1]
theorem S.iT(a b:Elem)(ha:a.counts.length<2^40)(hb:b.counts.length<2^40):aj Tryz.prog 95 [.dat (.elem a),.dat (.elem b)] (.int (kU a b)):=by
 refine aj.of Bd.iT (by simp) rfl rfl ?_
 conv=>whnf
 refine ah.pure (S.cmp_Compare_int a.value b.value) rfl ?_
 conv=>whnf
 refine ah.pure (S.Jh a.counts b.counts ha hb) rfl ?_
 conv=>whnf
 refine ah.pure (S.wz _ _ true) rfl ?_
 conv=>whnf
 refine ak.int ?_
 unfold kU Tm
 by_cases h6:a.value<b.value
 ·simp[h6]
 ·by_cases h7:b.value<a.value
  ·simp[h6,h7]
  ·simp[h6,h7]
def fC(l:List Elem):Prop:= ∀ e∈l,e.counts.length<2^40
theorem fC.get{l:List Elem}(h:fC l)(i:Nat):(l.getD i default).counts.length<2^40:=by
 rw[List.getD_eq_getElem?_getD]
 cases e:l[i]? with
 |none=>show([]:List Int).length<2^40; decide
 |some x=>exact h x (List.mem_of_getElem? e)
theorem lg{α:Type}{l:List α}{p:α->Bool}{d:α}{i:Nat}(hi:i<l.length)(h:(l.take i).any p=false):(l.take (i+1)).any p=p (l.getD i d):=by
 rw[List.take_add_one,List.any_append,h,Bool.false_or]
 simp[hi]
theorem jm{α:Type}{l:List α}{p:α->Bool}{d:α}{i:Nat}(hi:i<l.length)(h:p (l.getD i d)=true):l.any p=true:=by
 rw[List.any_eq_true]
 exact⟨l[i],List.getElem_mem hi,by simpa [hi] using h⟩
theorem S.iW(l:List Elem)(e:Elem)(f:Bool)(hl:l.length<2^40)(hs:fC l)(he:e.counts.length<2^40):aj Tryz.prog 34 [.row 3 f (.elems l),.dat (.elem e)] (.bool (l.any fun b=>pR b e)):=by
 refine aj.of Bd.iW (by simp) rfl rfl ?_
 conv=>whnf
 refine aH.same [3,7,8] (fun i:Nat=>[(9,.int i)]) (fun i=>i<=l.length/\(l.take i).any (fun b=>pR b e)=false) (fun i=>l.length-i) 0 rfl (by decide) rfl (fun _=>rfl) ⟨by omega,by simp⟩ ⟨⟨_,rfl,rfl⟩,trivial⟩ ?_
 conv=>whnf
 refine⟨rfl,?_⟩
 rintro i ⟨hi,hall⟩
 conv=>whnf
 refine⟨fun h3=>?_,fun h3=>?_⟩
 ·have hi':i<l.length:=by simpa using h3
  conv=>whnf
  refine .mk (by simp only[Rw.rng] at *; first|omega|(simp_all; done)|(simp_all; omega)) ?_
  conv=>whnf
  refine ah.pure (S.vg _ _ (by simpa using hs.get i) he) rfl ?_
  conv=>whnf
  refine⟨fun h4=>?_,fun h4=>?_⟩
  ·conv=>whnf
   refine ak.bool ?_
   simp only[Int.toNat_natCast] at h4
   exact jm hi' h4
  ·conv=>whnf
   refine .mk (by simp only[okI] at *; first|omega|(simp_all; done)|(simp_all; omega)) ?_
   conv=>whnf
   simp only[Int.toNat_natCast] at h4
   refine⟨i+1,⟨by omega,by rw[lg hi' hall]; exact h4⟩,by omega,⟨⟨_,rfl,rfl⟩,trivial⟩,?_,rfl⟩
   repeat' (first|exact trivial|exact⟨_,rfl,rfl⟩|constructor)
 ·conv=>whnf
  refine ak.bool ?_
  have hi':l.length<=i:=by simpa using h3
  rw[List.take_of_length_le hi'] at hall; exact hall
theorem S.yB(a b:List Int)(ha:a.length<2^40)(hb:b.length<2^40):aj Tryz.prog 91 [.row 0 false (.ints a),.row 0 false (.ints b)] (.int (cmpL a b)):=by
 refine aj.of Bd.yB (by simp) rfl rfl ?_
 conv=>whnf
 refine aH.same [0,1] (fun i:Nat=>[(5,.int i)]) (fun i=>i<=a.length/\i<=b.length/\cmpL a b=cmpL (a.drop i) (b.drop i)) (fun i=>a.length-i) 0 rfl (by decide) rfl (fun _=>rfl) ⟨by omega,by omega,rfl⟩ ⟨⟨_,rfl,rfl⟩,trivial⟩ ?_
 conv=>whnf
 refine⟨rfl,?_⟩
 rintro i ⟨hi,hj,he⟩
 conv=>whnf
 repeat(refine VC.mk (by first|exact id|exact fun h=>⟨h,h⟩) ?_; conv=>whnf)
 refine⟨fun h3=>?_,fun h3=>?_⟩
 ·have hi':i<a.length/\i<b.length:=by
   by_cases h:i<a.length
   ·simp[h] at h3; exact⟨h,by omega⟩
   ·simp[h] at h3
  rw[Md hi'.1 hi'.2] at he
  obtain⟨hi1,hi2⟩:=hi'
  conv=>whnf
  repeat(refine VC.mk (by simp only[Rw.rng] at *; first|omega|(simp_all; done)|(simp_all; omega)) ?_; conv=>whnf)
  refine⟨fun h5=>?_,fun h5=>?_⟩
  ·conv=>whnf
   refine ak.int ?_
   simp only[Int.toNat_natCast,decide_eq_true_eq] at h5
   rw[he,if_pos h5]
  ·conv=>whnf
   repeat(refine VC.mk (by simp only[Rw.rng] at *; first|omega|(simp_all; done)|(simp_all; omega)) ?_; conv=>whnf)
   simp only[Int.toNat_natCast,decide_eq_false_iff_not] at h5
   refine⟨fun h6=>?_,fun h6=>?_⟩
   ·conv=>whnf
    refine ak.int ?_
    simp only[Int.toNat_natCast,decide_eq_true_eq] at h6
    rw[he,if_neg h5,if_pos h6]
   ·conv=>whnf
    refine .mk (by simp only[okI] at *; first|omega|(simp_all; done)|(simp_all; omega)) ?_
    conv=>whnf
    simp only[Int.toNat_natCast,decide_eq_false_iff_not] at h6
    refine⟨i+1,⟨by omega,by omega,by rw[he,if_neg h5,if_neg h6]⟩,by omega,⟨⟨_,rfl,rfl⟩,trivial⟩,?_,rfl⟩
    repeat' (first|exact trivial|exact⟨_,rfl,rfl⟩|constructor)
 ·have hi':a.length<=i\/b.length<=i:=by
   by_cases h:i<a.length
   ·simp[h] at h3; exact .inr (by omega)
   ·exact .inl (by omega)
  have hx:=Eu hi' hi hj
  rw[<- he] at hx
  conv=>whnf
  refine⟨fun h4=>?_,fun h4=>?_⟩
  ·conv=>whnf
   refine ak.int ?_
   rw[hx,if_pos (by simpa using h4)]
  ·conv=>whnf
   have h5: ¬ a.length<b.length:=by simpa using h4
   refine⟨fun h6=>?_,fun h6=>?_⟩
   ·conv=>whnf
    refine ak.int ?_
    rw[hx,if_neg h5,if_pos (by simpa using h6)]
   ·conv=>whnf
    refine ak.int ?_
    rw[hx,if_neg h5,if_neg (by simpa using h6)]
theorem S.tZ(a b:Elem)(ha:a.counts.length<2^40)(hb:b.counts.length<2^40):aj Tryz.prog 56 [.dat (.elem a),.dat (.elem b)] (.int (kU a b)):=by
 refine aj.of Bd.tZ (by simp) rfl rfl ?_
 conv=>whnf
 refine⟨fun h1=>?_,fun h1=>?_⟩
 ·conv=>whnf
  exact ak.int (by simp only[decide_eq_true_eq] at h1; simp[kU,h1])
 ·conv=>whnf
  simp only[decide_eq_false_iff_not] at h1
  refine⟨fun h2=>?_,fun h2=>?_⟩
  ·conv=>whnf
   exact ak.int (by simp only[decide_eq_true_eq] at h2; simp[kU,h1,h2])
  ·simp only[decide_eq_false_iff_not] at h2
   conv=>whnf
   refine ah.pure (S.yB a.counts b.counts ha hb) rfl ?_
   conv=>whnf
   exact ak.int (by simp[kU,h1,h2])
theorem cmpL_eq: ∀ {a b:List Int},cmpL a b=0↔a=b:=by
 intro a
 induction a with
 |nil=>intro b; cases b<;>simp[cmpL]
 |cons x a ih =>
  intro b
  cases b with
  |nil=>simp[cmpL]
  |cons y b =>
   simp only[cmpL]
   split
   ·simp; omega
   ·split
    ·simp; omega
    ·rw[ih]; simp; intro _; omega
theorem lV{a b:Elem}:kU a b=0↔a=b:=by
 obtain⟨v,c⟩:=a; obtain⟨w,d⟩:=b
 simp only[kU]
 split
 ·simp; omega
 ·split
  ·simp; omega
  ·rw[cmpL_eq]; simp; intro _; omega
theorem S.yu(a b:List Elem)(f g:Bool)(ha:a.length<2^40)(hb:b.length<2^40)(sa:fC a)(sb:fC b):aj Tryz.prog 24 [.row 3 f (.elems a),.row 3 g (.elems b)] (.bool (decide (a=b))):=by
 refine aj.of Bd.yu (by simp) rfl rfl ?_
 conv=>whnf
 refine⟨fun h1=>?_,fun h1=>?_⟩
 ·conv=>whnf
  refine ak.bool ?_
  refine decide_eq_false ?_
  simp at h1
  rintro rfl; exact h1 rfl
 ·have hlen:a.length=b.length:=by simp at h1; omega
  conv=>whnf
  refine aH.same [0,1] (fun i:Nat=>[(5,.int i)]) (fun i=>i<=a.length/\a.take i=b.take i) (fun i=>a.length-i) 0 rfl (by decide) rfl (fun _=>rfl) ⟨by omega,by simp⟩ ⟨⟨_,rfl,rfl⟩,trivial⟩ ?_
  conv=>whnf
  refine⟨rfl,?_⟩
  rintro i ⟨hi,hall⟩
  conv=>whnf
  refine⟨fun h3=>?_,fun h3=>?_⟩
  ·have hi':i<a.length:=by simpa using h3
   conv=>whnf
   repeat(refine VC.mk (by simp only[Rw.rng] at *; first|omega|(simp_all; done)|(simp_all; omega)) ?_; conv=>whnf)
   refine ah.pure (S.tZ _ _ (by simpa using sa.get i) (by simpa using sb.get i)) rfl ?_
   conv=>whnf
   refine⟨fun h4=>?_,fun h4=>?_⟩
   ·conv=>whnf
    refine ak.bool ?_
    refine decide_eq_false ?_
    rintro rfl
    simp only[Int.toNat_natCast,bne_iff_ne,ne_eq] at h4
    exact h4 (lV.2 rfl)
   ·conv=>whnf
    refine .mk (by simp only[okI] at *; first|omega|(simp_all; done)|(simp_all; omega)) ?_
    conv=>whnf
    simp only[Int.toNat_natCast,bne_eq_false_iff_eq] at h4
    rw[lV] at h4
    refine⟨i+1,⟨by omega,?_⟩,by omega,⟨⟨_,rfl,rfl⟩,trivial⟩,?_,rfl⟩
    ·rw[List.take_add_one,List.take_add_one,hall]
     congr 1
     have hb':i<b.length:=by omega
     simp only[List.getD_eq_getElem?_getD,List.getElem?_eq_getElem hi',List.getElem?_eq_getElem hb',Option.getD_some] at h4
     simp[hi',hb',h4]
    ·repeat' (first|exact trivial|exact⟨_,rfl,rfl⟩|constructor)
  ·conv=>whnf
   refine ak.bool ?_
   have hi':a.length<=i:=by simpa using h3
   rw[List.take_of_length_le hi',List.take_of_length_le (by omega)] at hall
   symm; simpa using hall
def LP(l:List Elem):Bool:=decide (60<l.length)||l.any fun e=>decide (8<e.counts.length)
theorem S.sG(l:List Elem)(f:Bool)(hl:l.length<2^40)(_hs:fC l):aj Tryz.prog 16 [.row 3 f (.elems l)] (.bool (LP l)):=by
 refine aj.of Bd.sG (by simp) rfl rfl ?_
 conv=>whnf
 refine⟨fun h1=>?_,fun h1=>?_⟩
 ·conv=>whnf
  refine ak.bool ?_
  have:60<l.length:=by simp at h1; omega
  simp[LP,this]
 ·conv=>whnf
  have h60: ¬ 60<l.length:=by simp at h1; omega
  refine aH.same [0] (fun i:Nat=>[(3,.int i)]) (fun i=>i<=l.length/\(l.take i).any (fun e=>decide (8<e.counts.length))=false) (fun i=>l.length-i) 0 rfl (by decide) rfl (fun _=>rfl) ⟨by omega,by simp⟩ ⟨⟨_,rfl,rfl⟩,trivial⟩ ?_
  conv=>whnf
  refine⟨rfl,?_⟩
  rintro i ⟨hi,hall⟩
  conv=>whnf
  refine⟨fun h3=>?_,fun h3=>?_⟩
  ·have hi':i<l.length:=by simpa using h3
   conv=>whnf
   refine .mk (by simp only[Rw.rng] at *; first|omega|(simp_all; done)|(simp_all; omega)) ?_
   conv=>whnf
   refine⟨fun h4=>?_,fun h4=>?_⟩
   ·conv=>whnf
    refine ak.bool ?_
    simp only[Int.toNat_natCast] at h4
    have h5:(l.any fun e=>decide (8<e.counts.length))=true:=jm (d:=default) hi' (by simp only[decide_eq_true_eq] at h4 ⊢; omega)
    simp[LP,h5]
   ·conv=>whnf
    refine .mk (by simp only[okI] at *; first|omega|(simp_all; done)|(simp_all; omega)) ?_
    conv=>whnf
    simp only[Int.toNat_natCast] at h4
    refine⟨i+1,⟨by omega,by rw[lg (d:=default) hi' hall]; simp only[decide_eq_false_iff_not] at h4 ⊢; omega⟩,by omega,⟨⟨_,rfl,rfl⟩,trivial⟩,?_,rfl⟩
    repeat' (first|exact trivial|exact⟨_,rfl,rfl⟩|constructor)
  ·conv=>whnf
   refine ak.bool ?_
   have hi':l.length<=i:=by simpa using h3
   rw[List.take_of_length_le hi'] at hall
   simp only[LP,hall,Bool.or_false]
   simp only[h60,decide_false]
def BZ(n:Int):Bool:=decide (0<=n)&&decide (n<=1048576)
theorem S.kV(l:List Int)(f:Bool)(hl:l.length<2^40):aj Tryz.prog 71 [.row 0 f (.ints l)] (.bool (l.all BZ)):=by
 refine aj.of Bd.kV (by simp) rfl rfl ?_
 conv=>whnf
 refine aH.same [5,6] (fun i:Nat=>[(7,.int i)]) (fun i=>i<=l.length/\(l.take i).all BZ=true) (fun i=>l.length-i) 0 rfl (by decide) rfl (fun _=>rfl) ⟨by omega,by simp⟩ ⟨⟨_,rfl,rfl⟩,trivial⟩ ?_
 conv=>whnf
 refine⟨rfl,?_⟩
 rintro i ⟨hi,hall⟩
 conv=>whnf
 refine⟨fun h3=>?_,fun h3=>?_⟩
 ·have hi':i<l.length:=by simpa using h3
  conv=>whnf
  repeat(refine VC.mk (by first|exact id|(intro h; rw[h]; rfl)|(simp only[Rw.rng] at *; first|omega|(simp_all; done)|(simp_all; omega))) ?_; conv=>whnf)
  refine⟨fun h4=>?_,fun h4=>?_⟩
  ·conv=>whnf
   refine ak.bool ?_
   simp only[Int.toNat_natCast] at h4
   have h5:BZ (l.getD i 0)=false:=by
    have key: ∀ x:Int,(decide (x<0)||decide (1048576<x))=true->BZ x=false:=by
     intro x h4
     unfold BZ
     by_cases h0:x<0
     ·simp; omega
     ·simp[h0] at h4; simp; omega
    exact key _ h4
   rw[Bool.eq_false_iff]
   intro h
   rw[List.all_eq_true] at h
   have:=h l[i] (List.getElem_mem hi')
   rw[show l.getD i 0=l[i] by simp[hi']] at h5
   rw[this] at h5; cases h5
  ·conv=>whnf
   refine .mk (by simp only[okI] at *; first|omega|(simp_all; done)|(simp_all; omega)) ?_
   conv=>whnf
   simp only[Int.toNat_natCast] at h4
   refine⟨i+1,⟨by omega,?_⟩,by omega,⟨⟨_,rfl,rfl⟩,trivial⟩,?_,rfl⟩
   ·have h5:BZ (l.getD i 0)=true:=by
     have key: ∀ x:Int,(decide (x<0)||decide (1048576<x))=false->BZ x=true:=by
      intro x h4
      unfold BZ
      by_cases h0:x<0
      ·simp[h0] at h4
      ·simp[h0] at h4; simp; omega
     exact key _ h4
    rw[List.take_add_one,List.all_append,hall]
    simpa [hi'] using h5
   ·repeat' (first|exact trivial|exact⟨_,rfl,rfl⟩|constructor)
 ·conv=>whnf
  refine ak.bool ?_
  have hi':l.length<=i:=by simpa using h3
  rw[List.take_of_length_le hi'] at hall; exact hall
def dO(e:Elem):Int:=if 6<e.counts.length then 0 else if e.counts.all BZ=true then e.counts.sum else 0
theorem F8: ∀ {l:List Int},l.all BZ=true->0<=l.sum/\l.sum<=l.length*1048576:=by
 intro l
 induction l with
 |nil=>intro _; simp
 |cons x l ih =>
  intro h
  simp only[List.all_cons,Bool.and_eq_true,BZ,decide_eq_true_eq] at h
  have:=ih h.2
  simp only[List.sum_cons,List.length_cons]
  omega
theorem Qa{l:List Int}(h:l.all BZ=true)(i:Nat):(l.take i).all BZ=true:=by
 rw[List.all_eq_true] at h ⊢
 exact fun x hx=>h x (List.mem_of_mem_take hx)
theorem YM{l:List Int}{i:Nat}(hi:i<l.length):(l.take (i+1)).sum=(l.take i).sum+l.getD i 0:=by
 rw[List.take_add_one,List.sum_append]; simp[hi]
theorem S.nV(e:Elem)(hl:e.counts.length<2^40):aj Tryz.prog 59 [.dat (.elem e)] (.int (dO e)):=by
 refine aj.of Bd.nV (by simp) rfl rfl ?_
 conv=>whnf
 repeat(refine VC.mk id ?_; conv=>whnf)
 refine ah.fM (fun _=>S.kV e.counts false hl) rfl ?_
 conv=>whnf
 repeat(refine VC.mk (by first|exact id|(intro h; rw[h]; rfl)) ?_; conv=>whnf)
 refine⟨fun h1=>?_,fun h1=>?_⟩
 ·conv=>whnf
  refine ak.int ?_
  unfold dO
  by_cases h:6<e.counts.length
  ·rw[if_pos h]
  ·rw[if_neg h,if_neg]
   have h': ¬ (6:Int)<e.counts.length:=by omega
   simp[h'] at h1
   intro hh
   rw[List.all_eq_true] at hh
   obtain⟨x,hx,hx'⟩:=h1
   exact absurd (hh x hx) (by simp[hx'])
 ·have h2: ¬ 6<e.counts.length/\e.counts.all BZ=true:=by
   by_cases h:(6:Int)<e.counts.length
   ·simp[h] at h1
   ·simp[h] at h1
    exact⟨by omega,by rw[List.all_eq_true]; exact h1⟩
  conv=>whnf
  refine aH.same [17,18] (fun i:Nat=>[(19,.int i),(3,.int (e.counts.take i).sum)]) (fun i=>i<=e.counts.length) (fun i=>e.counts.length-i) 0 rfl (by decide) rfl (fun _=>rfl) (by omega) ⟨⟨_,rfl,rfl⟩,⟨_,rfl,rfl⟩,trivial⟩ ?_
  conv=>whnf
  refine⟨rfl,?_⟩
  rintro i hi
  have hb:=F8 (Qa h2.2 i)
  have hb':((e.counts.take i).length:Int)<=6:=by simp; omega
  conv=>whnf
  refine⟨fun h3=>?_,fun h3=>?_⟩
  ·have hi':i<e.counts.length:=by simpa using h3
   have hs:=YM hi'
   have hc:=F8 (Qa h2.2 (i+1))
   have hc':((e.counts.take (i+1)).length:Int)<=6:=by simp; omega
   conv=>whnf
   repeat(refine VC.mk (by first|(simp only[okI,Int.toNat_natCast] at *; rw[<- hs]; omega)|(simp only[okI,Rw.rng] at *; first|omega|(simp_all; done)|(simp_all; omega))) ?_; conv=>whnf)
   refine⟨i+1,by omega,by omega,⟨⟨_,rfl,rfl⟩,⟨_,rfl,?_⟩,trivial⟩,?_,rfl⟩
   ·rw[hs]; simp[V.aG,rW]
   ·repeat' (first|exact trivial|exact⟨_,rfl,rfl⟩|constructor)
  ·conv=>whnf
   refine ak.int ?_
   have hi':e.counts.length<=i:=by simpa using h3
   rw[List.take_of_length_le hi']
   simp[dO,h2.1,h2.2]
def Ah(x y:Elem):Bool:=pR y x&&(kU y x !=0)
theorem S.lC(x y:Elem)(d:Bool)(hx:x.counts.length<2^40)(hy:y.counts.length<2^40):aj Tryz.prog 61 [.agg [.int x.value,.row 0 false (.ints x.counts),.bool d],.dat (.elem y)] (.bool (Ah x y)):=by
 refine aj.of Bd.lC (by simp) rfl rfl ?_
 conv=>whnf
 refine ah.pure (S.vg y x hy hx) rfl ?_
 conv=>whnf
 repeat(refine VC.mk (by first|exact id|exact fun h=>⟨h,h⟩) ?_; conv=>whnf)
 refine ah.fM (fun _=>S.iT y x hy hx) rfl ?_
 conv=>whnf
 repeat(refine VC.mk id ?_; conv=>whnf)
 refine ak.bool ?_
 cases h:pR y x<;>simp[Ah,h]
def aa3(p:Elem->Bool)(l:List Elem):Int:=if l.any p=true then(l.findIdx p:Int) else -1
theorem KZ{p:Elem->Bool}{l:List Elem}{i:Nat}(hi:i<l.length)(h0:(l.take i).any p=false)(h1:p (l.getD i default)=true):l.findIdx p=i:=by
 rw[List.findIdx_eq hi]
 refine⟨by simpa [hi] using h1,fun j hj=>?_⟩
 rw[List.any_eq_false] at h0
 have:=h0 l[j] (by rw[List.mem_take_iff_getElem]; exact⟨j,by omega,rfl⟩)
 simpa using this
theorem S.Tn(l:List Elem)(x:Elem)(d f:Bool)(hl:l.length<2^40)(hs:fC l)(hx:x.counts.length<2^40) :
  aj Tryz.prog 97 [.row 3 f (.elems l),.fn (61+4096) [.int x.value,.row 0 false (.ints x.counts),.bool d]] (.int (aa3 (Ah x) l)):=by
 refine aj.of Bd.eG (by simp) rfl rfl ?_
 conv=>whnf
 refine aH.same [0,1,6,7] (fun i:Nat=>[(8,.int i)]) (fun i=>i<=l.length/\(l.take i).any (Ah x)=false) (fun i=>l.length-i) 0 rfl (by decide) rfl (fun _=>rfl) ⟨by omega,by simp⟩ ⟨⟨_,rfl,rfl⟩,trivial⟩ ?_
 conv=>whnf
 refine⟨rfl,?_⟩
 rintro i ⟨hi,hall⟩
 conv=>whnf
 refine⟨fun h3=>?_,fun h3=>?_⟩
 ·have hi':i<l.length:=by simpa using h3
  conv=>whnf
  refine .mk (by simp only[Rw.rng] at *; first|omega|(simp_all; done)|(simp_all; omega)) ?_
  conv=>whnf
  refine ah.pure (S.lC x (l.getD i default) d hx (hs.get i)) rfl ?_
  conv=>whnf
  refine⟨fun h4=>?_,fun h4=>?_⟩
  ·conv=>whnf
   refine ak.int ?_
   rw[aa3,if_pos (jm hi' h4),KZ hi' hall h4]
  ·conv=>whnf
   refine .mk (by simp only[okI] at *; first|omega|(simp_all; done)|(simp_all; omega)) ?_
   conv=>whnf
   refine⟨i+1,⟨by omega,by rw[lg hi' hall]; exact h4⟩,by omega,⟨⟨_,rfl,rfl⟩,trivial⟩,?_,rfl⟩
   repeat' (first|exact trivial|exact⟨_,rfl,rfl⟩|constructor)
 ·conv=>whnf
  refine ak.int ?_
  have hi':l.length<=i:=by simpa using h3
  rw[List.take_of_length_le hi'] at hall
  rw[aa3,hall]; rfl
theorem S.La(l:List Elem)(x:Elem)(d f:Bool)(hl:l.length<2^40)(hs:fC l)(hx:x.counts.length<2^40) :
  aj Tryz.prog 62 [.row 3 f (.elems l),.fn (61+4096) [.int x.value,.row 0 false (.ints x.counts),.bool d]] (.bool (l.any (Ah x))):=by
 refine aj.of Bd.dQ (by simp) rfl rfl ?_
 conv=>whnf
 refine ah.pure (S.Tn l x d f hl hs hx) rfl ?_
 conv=>whnf
 refine ak.bool ?_
 unfold aa3
 cases h:l.any (Ah x)
 ·simp
 ·simp
theorem S.mW(a b:Elem)(ha:a.counts.length<2^40)(hb:b.counts.length<2^40):aj Tryz.prog 100 [.dat (.elem a),.dat (.elem b)] (.bool (decide (a=b))):=by
 refine aj.of Bd.mW (by simp) rfl rfl ?_
 conv=>whnf
 refine ah.pure (S.iT a b ha hb) rfl ?_
 conv=>whnf
 refine ak.bool ?_
 rw[Bool.eq_iff_iff]; simp only[decide_eq_true_eq,beq_iff_eq]
 exact lV.symm
theorem ak.elem{e:Elem}{n ty:Nat}{h:Hz}(q:h.get n=some (.row ty 0 (.ints e.counts) [])):ak (.dat (.elem e)) (.agg [.int e.value,.own n]) h:=⟨by
 show T.sub (fun _=>True) h.au (iJ e) (.agg [.int e.value,.own n])
 simp only[iJ,T.sub,T.dN,and_true]
 refine⟨trivial,trivial,trivial,?_,by decide,ty,?_⟩
 ·rw[gK]; intro t ht; obtain⟨x,_,rfl⟩:=List.mem_map.1 ht; rfl
 ·have:=aP q; simpa [OV.aA,Rw.aV,V.aV] using this⟩
theorem S.kR(e:Elem)(d:Bool)(he:e.counts.length<2^40):aj Tryz.prog 63 [.agg [.int e.value,.row 0 false (.ints e.counts),.bool d]] (.dat (.elem e)):=by
 refine aj.of Bd.kR (by simp) rfl rfl ?_
 conv=>whnf
 refine .mk (by simp only[nI,nU,Rw.len]; omega) ?_
 conv=>whnf
 exact ak.elem (ty:=3) rfl
theorem ah.lend{P:Program}{dr:Bool}{f:FuncId}{args args':List V}{res:V}{h:Hz}{n:Nat}{K:V->Hz->Prop}{KW:Nat->V->Hz->Prop}(S:aj P f args' res)(hs:T.dN (fun _=>True) h.au (V.aV args') (V.aV args))(hh:res.aG.hard=true)(hr:res.free=true)(hK:K res h):ah P dr none f args h n K KW :=
 ⟨.inl (Ai.lend S hs hh (fun _ e=>by cases e) ⟨res,h,rfl,rfl,fun _=>⟨rfl,V.nY res hr⟩,hK⟩)⟩
theorem Dy(l:List Elem):T.cu (l.map iJ)=true:=by
 rw[gK]; intro t ht; obtain⟨x,_,rfl⟩:=List.mem_map.1 ht; rfl
theorem aQ.of_eq{a b:List T}(h:a=b):aQ a b:=by subst h; exact .refl _
theorem ah.aez{P:Program}{dr b:Bool}{f:FuncId}{args args':List V}{res:V}{h:Hz}{n:Nat}{K:V->Hz->Prop}{KW:Nat->V->Hz->Prop}(S:b=true->aj P f args' res)(hs:b=true->T.dN (fun _=>True) h.au (V.aV args') (V.aV args))(hh:res.aG.hard=true)(hr:res.free=true)(hK:K res h):ah P dr (some b) f args h n K KW :=
 ⟨.inl (.inl ⟨res,fun e=>Ai.lend (S e) (hs e) hh (fun _ e=>by cases e) ⟨rfl,rfl⟩,hr,hK⟩)⟩
abbrev dG(l:List Elem):OV:=.row 35 3 (.elems l) []
theorem P9{h:Hz}{j:Nat}{l:List Elem}{Z:Nat->Prop}(hz:Z j)(q:h.get j=some (dG l)):T.sub Z h.au (V.row 3 false (.elems l)).aG (V.own j).aG:=by
 show T.sub Z h.au (.sl 3 false (l.map iJ)) (.own j)
 simp only[T.sub]
 refine⟨trivial,hz,Dy l,by decide,35,?_⟩
 have:=aP q; simpa [OV.aA,Rw.aV,V.aV] using this
theorem ak.ac3{h:Hz}{j:Nat}{l:List Elem}(q:h.get j=some (dG l)):ak (.row 3 false (.elems l)) (.own j) h:=⟨P9 trivial q⟩
abbrev h1(l:List Elem):Hz:=[(0,some (dG l))]
theorem YL{l:List Elem}{n:Nat}(hn:0<n):Hz.get n (h1 l)=none:=by
 show(bif Nat.beq 0 n then some (dG l) else none)=none
 rw[aeA,if_neg (by omega)]
def qE(out:List Elem)(x:Elem):List Elem:=if(out.any fun b=>pR b x)=true then out else out++[x]
theorem Je{α β:Type}(f:β->α->β)(b:β){l:List α}{i:Nat}(d:α)(h:i<l.length):(l.take (i+1)).foldl f b=f ((l.take i).foldl f b) (l.getD i d):=by
 rw[List.take_add_one,List.foldl_append]; simp[h]
theorem WC{l:List Elem}{e:Elem}:(qE l e).length<=l.length+1:=by
 unfold qE; split
 ·omega
 ·simp
theorem YK: ∀ (l acc:List Elem),(l.foldl qE acc).length<=acc.length+l.length:=by
 intro l
 induction l with
 |nil=>intro acc; simp
 |cons x l ih=>intro acc; simp only[List.foldl_cons,List.length_cons]; have:=ih (qE acc x); have:=WC (l:=acc) (e:=x); omega
theorem YN: ∀ (l acc:List Elem) (x:Elem),x∈l.foldl qE acc->x∈acc\/x∈l:=by
 intro l
 induction l with
 |nil=>intro acc x h; exact .inl h
 |cons y l ih =>
  intro acc x h
  simp only[List.foldl_cons] at h
  rcases ih _ _ h with h|h
  ·unfold qE at h; split at h
   ·exact .inl h
   ·simp only[List.mem_append,List.mem_singleton] at h
    rcases h with h|h
    ·exact .inl h
    ·exact .inr (by simp[h])
  ·exact .inr (by simp[h])
theorem Jf{l:List Elem}(h:fC l)(i:Nat):fC ((l.take i).foldl qE []):=fun x hx=>by
 rcases YN _ _ _ hx with h'|h'
 ·cases h'
 ·exact h x (List.mem_of_mem_take h')
def Tj(l:List Elem):Prop:= ∀ e∈l,e.counts.length<2^30
theorem Tj.e{l:List Elem}(h:Tj l):fC l:=fun e he=>by have:=h e he; omega
def uf(l:List Elem):Nat->List Elem
 |0=>[]
 |n+1=>if n=0\/l.getD n default≠l.getD (n-1) default then uf l n++[l.getD n default] else uf l n
theorem Il(l:List Elem): ∀ n,(uf l n).length<=n:=by
 intro n
 induction n with
 |zero=>exact Nat.le_refl _
 |succ n ih =>
  simp only[uf]; split
  ·simp; omega
  ·omega
theorem aa4{l:List Elem}{x:Elem}: ∀ {n},x∈uf l n->n<=l.length->x∈l:=by
 intro n
 induction n with
 |zero=>intro h; cases h
 |succ n ih =>
  intro h hn
  simp only[uf] at h
  split at h
  ·rcases List.mem_append.1 h with h|h
   ·exact ih h (by omega)
   ·rw[List.mem_singleton] at h; subst h
    simp[show n<l.length by omega]
  ·exact ih h (by omega)
abbrev zeroV:V:=.agg [.int 0,.row 0 true .nil]
def mid(l:List Elem)(j:Nat):List Elem:=uf l j++l.drop (uf l j).length
theorem aa5{l:List Elem}{j:Nat}(h:j<=l.length):(mid l j).length=l.length:=by
 have:=Il l j
 simp[mid]; omega
theorem U8{l:List Elem}{j i:Nat}(h:(uf l j).length<=i):(mid l j).getD i default=l.getD i default:=by
 unfold mid
 rw[List.getD_eq_getElem?_getD,List.getElem?_append_right h,List.getElem?_drop,List.getD_eq_getElem?_getD]
 congr 2; omega
theorem aa6{l:List Elem}{j:Nat}(hj:j<l.length)(h:j=0\/l.getD j default≠l.getD (j-1) default):(mid l j).set (uf l j).length (l.getD j default)=mid l (j+1):=by
 have hl:=Il l j
 have e:uf l (j+1)=uf l j++[l.getD j default]:=by simp only[uf]; rw[if_pos h]
 unfold mid
 rw[e,List.set_append_right _ _ (Nat.le_refl _),Nat.sub_self,cZ default (show(uf l j).length<l.length by omega)]
 simp
theorem Qb{l:List Elem}{j:Nat}(h0:j≠0)(h:l.getD j default=l.getD (j-1) default):uf l (j+1)=uf l j:=by
 simp only[uf]; rw[if_neg]; intro q; rcases q with q|q
 ·exact h0 q
 ·exact q h
theorem Ji{l:List Elem}{k:Nat}(hk:k<=l.length)(h: ∀ i,0<i->i<k->l.getD i default≠l.getD (i-1) default):uf l k=l.take k:=by
 induction k with
 |zero=>rfl
 |succ k ih =>
  simp only[uf]
  rw[if_pos,ih (by omega) fun i h1 h2=>h i h1 (by omega),List.take_add_one]
  ·simp[show k<l.length by omega]
  ·by_cases h0:k=0
   ·exact .inl h0
   ·exact .inr (h k (by omega) (by omega))
theorem Jg(l:List Elem)(m nx:Nat):(OV.row 35 3 (.elems l) (List.replicate m zeroV)).good nx=true:=by
 have h1:Ew 3 (List.replicate m zeroV)=true:=by
  induction m with
  |zero=>rfl
  |succ m ih=>simp only[List.replicate_succ,Ew,ih,Bool.and_true]; rfl
 have h2:T.Py nx (V.aV (List.replicate m zeroV))=true:=by
  clear h1
  induction m with
  |zero=>rfl
  |succ m ih=>simp only[List.replicate_succ,V.aV,T.Py,ih,Bool.and_true]; rfl
 simp only[OV.good,h1,h2]; rfl
theorem Ep(l:List Elem)(m:Nat):(OV.row 35 3 (.elems l) (List.replicate m zeroV)).Ef=true:=by
 simp only[OV.Ef]
 induction m with
 |zero=>rfl
 |succ m ih=>simp only[List.replicate_succ,V.cu,ih,Bool.and_true]; rfl
def ug(l:List Elem):List Elem:=uf l l.length
theorem S.Qc(l:List Elem)(n:Nat)(hl:l.length<2^30)(hs:fC l) :
  aS Tryz.prog 99 (V.aV [.own 0,.fn 100 []]) (h1 l).au n
   (fun t hp=>(ug l=l/\t= .own 0/\hp=(h1 l).au)\/(∃ m,t= .oV 0 0 (ug l).length/\hp=Hz.au [(0,some (.row 35 3 (.elems (ug l)) (List.replicate m zeroV)))])):=by
 refine qA.of (nx:=1) Bd.dW (by simp) ⟨_,_,.inr ⟨0,rfl,rfl⟩⟩ rfl rfl ?_
 conv=>whnf
 refine⟨fun h1=>?_,fun h1=>?_⟩
 ·conv=>whnf
  have hc:ug l=l:=by
   have h2:l.length<2:=by simp at h1; omega
   rw[ug,Ji (Nat.le_refl _) (fun i h3 h4=>by omega),List.take_length]
  exact jG.one (c:=0) (j:=0) (o:=dG l) (t:=.own 0) rfl rfl rfl (fun _=>rfl) (.inl rfl) rfl (.eq rfl) (.inl ⟨hc,rfl,rfl⟩)
 ·have h2:2<=l.length:=by simp at h1; omega
  conv=>whnf
  refine aH.same [0,1] (fun i:Nat=>[(5,.int i)]) (fun i=>1<=i/\i<=l.length/\ ∀ k,0<k->k<i->l.getD k default≠l.getD (k-1) default) (fun i=>l.length-i) 1 rfl (by decide) rfl (fun _=>rfl) ⟨by omega,by omega,fun k h3 h4=>by omega⟩ ⟨⟨_,rfl,rfl⟩,trivial⟩ ?_
  conv=>whnf
  refine⟨rfl,?_⟩
  rintro k ⟨hk0,hk,hne⟩
  have e1:((k:Int)-1).toNat=k-1:=by omega
  conv=>whnf
  refine⟨fun h3=>?_,fun h3=>?_⟩
  ·have hk':k<l.length:=by simpa using h3
   conv=>whnf
   repeat(refine VC.mk (by simp only[okI,Rw.rng]; omega) ?_; conv=>whnf)
   refine ah.pure (S.mW _ _ (hs.get _) (hs.get _)) rfl ?_
   conv=>whnf
   refine⟨fun h4=>?_,fun h4=>?_⟩
   ·have heq:l.getD k default=l.getD (k-1) default:=by
     rw[e1] at h4; simpa using h4
    have hdk:uf l k=l.take k:=Ji hk hne
    have ac7:uf l (k+1)=l.take k:=by rw[Qb (by omega) heq,hdk]
    conv=>whnf
    refine .mk (by simp only[Rw.rV]; omega) ?_
    conv=>whnf
    refine aH.objs 1 [0,1,6] (fun j:Nat=>[(7,.int j),(5,.int (uf l (k+j)).length)]) (fun j=>[(0,dG (mid l (k+j)))]) (fun j=>1<=j/\k+j<=l.length/\(uf l (k+j)).length+1<=k+j) (fun j=>l.length-j) 1 [0] rfl (by decide) (fun _=>rfl) ⟨by omega,by omega,?_⟩ ?_ ?_ ?_
    ·rw[ac7]; simp; omega
    ·refine⟨⟨_,rfl,.eq rfl⟩,⟨_,rfl,.eq ?_⟩,trivial⟩
     rw[ac7]
     show T.int (((l.take k).length:Nat):Int)=T.int (k:Int)
     simp[Nat.min_eq_left hk]
    ·refine⟨⟨rfl,(fun _=>rfl),rfl,rfl,rfl,_,rfl,rfl,rfl,aQ.of_eq ?_⟩,trivial⟩
     have:mid l (k+1)=l:=by unfold mid; rw[ac7]; simp[Nat.min_eq_left hk]
     rw[this]
    conv=>whnf
    refine⟨(sR rfl),rfl,?_⟩
    rintro j ⟨hj0,hj,hdl⟩
    have hml:=aa5 hj
    have e2:((j:Int)-1).toNat=j-1:=by omega
    have hsm:fC (mid l (k+j)):=fun x hx=>by
     unfold mid at hx
     rcases List.mem_append.1 hx with hx|hx
     ·exact hs x (aa4 hx hj)
     ·exact hs x (List.mem_of_mem_drop hx)
    conv=>whnf
    refine⟨fun h5=>?_,fun h5=>?_⟩
    ·have hj':k+j<l.length:=by
      have h6:j<l.length-k:=by
       have:(j:Int)<(((Rw.elems l).len-k:Nat):Int):=by simpa using h5
       have e3:(Rw.elems l).len=l.length:=rfl
       rw[e3] at this
       omega
      omega
     have g1:=U8 (l:=l) (j:=k+j) (i:=k+j) (by omega)
     have g2:=U8 (l:=l) (j:=k+j) (i:=k+(j-1)) (by omega)
     conv=>whnf
     repeat(refine VC.mk (by first|(simp only[okI]; omega)|(show _/\_<(((l.length-k:Nat)):Int); omega)|(simp only[Rw.rng,hml,Int.toNat_natCast,e2]; omega)|(show(0:Int)<=_/\_<((mid l (k+j)).length:Int); rw[hml]; simp only[Int.toNat_natCast,e2]; omega)) ?_; conv=>whnf)
     refine ah.pure (S.mW _ _ (hsm.get _) (hsm.get _)) rfl ?_
     simp only[Int.toNat_natCast,e2,g1,g2]
     conv=>whnf
     have e4:k+(j-1)=k+j-1:=by omega
     refine⟨fun h6=>?_,fun h6=>?_⟩
     ·have hne':l.getD (k+j) default≠l.getD (k+j-1) default:=by
       rw[e4] at h6; simpa using h6
      have hst:=aa6 hj' (.inr hne')
      have hd1:uf l (k+j+1)=uf l (k+j)++[l.getD (k+j) default]:=by simp only[uf]; rw[if_pos (.inr hne')]
      conv=>whnf
      repeat(refine VC.mk (by first|(simp only[okI]; omega)|(show _/\_<(((l.length-k:Nat)):Int); omega)|(simp only[Rw.rng,hml,Int.toNat_natCast]; omega)|(show(0:Int)<=_/\_<((mid l (k+j)).length:Int); rw[hml]; simp only[Int.toNat_natCast]; omega)) ?_; conv=>whnf)
      refine⟨j+1,[0],⟨by omega,by omega,?_⟩,by omega,⟨⟨_,rfl,.eq rfl⟩,⟨_,rfl,.eq ?_⟩,trivial⟩,(sR rfl),⟨rfl,(fun _=>rfl),rfl,rfl,rfl,_,rfl,rfl,rfl,aQ.of_eq ?_⟩,trivial⟩
      ·show(uf l (k+j+1)).length+1<=k+(j+1)
       rw[hd1]; simp; omega
      ·show T.int (((uf l (k+j+1)).length:Nat):Int)=T.int (((uf l (k+j)).length:Int)+1)
       rw[hd1]; simp
      ·show(dG (mid l (k+j+1))).aA.l=(OV.row 35 3 (.elems ((mid l (k+j)).set (((uf l (k+j)).length:Int)).toNat ((mid l (k+j)).getD ((k:Int).toNat+(j:Int).toNat) default))) []).aA.l
       simp only[Int.toNat_natCast,g1,hst]
     ·have heq':l.getD (k+j) default=l.getD (k+j-1) default:=by
       rw[e4] at h6; simpa using h6
      have hd1:uf l (k+j+1)=uf l (k+j):=Qb (by omega) heq'
      conv=>whnf
      refine .mk (by simp only[okI] at *; first|omega|(simp_all; done)|(simp_all; omega)) ?_
      conv=>whnf
      refine⟨j+1,[0],⟨by omega,by omega,?_⟩,by omega,⟨⟨_,rfl,.eq rfl⟩,⟨_,rfl,.eq ?_⟩,trivial⟩,(sR rfl),⟨rfl,(fun _=>rfl),rfl,rfl,rfl,_,rfl,rfl,rfl,aQ.of_eq ?_⟩,trivial⟩
      ·show(uf l (k+j+1)).length+1<=k+(j+1)
       rw[hd1]; omega
      ·show T.int (((uf l (k+j+1)).length:Nat):Int)=T.int ((uf l (k+j)).length:Int)
       rw[hd1]
      ·show(dG (mid l (k+j+1))).aA.l=(dG (mid l (k+j))).aA.l
       unfold mid; rw[hd1]
    ·have hj':k+j=l.length:=by
      have h6: ¬ (j:Int)<(((Rw.elems l).len-k:Nat):Int):=by simpa using h5
      have e3:(Rw.elems l).len=l.length:=rfl
      rw[e3] at h6
      omega
     have agj:(uf l (k+j)).length<=l.length:=by have:=Il l (k+j); omega
     conv=>whnf
     repeat(refine VC.mk (by first|(simp only[Rw.rV,hml]; omega)|(refine⟨?_,rfl⟩; show((uf l (k+j)).length:Int).toNat<=(mid l (k+j)).length; rw[hml,Int.toNat_natCast]; omega)|(show(0:Int)<=((uf l (k+j)).length:Int)/\((uf l (k+j)).length:Int)<=(((mid l (k+j)).take ((uf l (k+j)).length:Int).toNat).length:Int); rw[List.length_take,hml,Int.toNat_natCast]; omega)|(show _<=(mid l (k+j)).length/\(mid l (k+j)).length=(mid l (k+j)).length; rw[hml]; simp only[Int.toNat_natCast]; omega)|(show(0:Int)<=_/\_<=(((mid l (k+j)).take _).length:Int); rw[List.length_take,hml]; simp only[Int.toNat_natCast]; omega)) ?_; conv=>whnf)
     have htk:(mid l (k+j)).take ((uf l (k+j)).length:Int).toNat=ug l:=by
      rw[Int.toNat_natCast]; unfold mid; rw[List.take_left,hj']; rfl
     have hcl:((uf l (k+j)).length:Int).toNat=(ug l).length:=by rw[Int.toNat_natCast,hj']; rfl
     refine jG.one (c:=0) (j:=0) (o:=.row 35 3 (.elems (ug l)) (List.replicate ((mid l (k+j)).length-((uf l (k+j)).length:Int).toNat) zeroV)) (t:=.oV 0 0 (ug l).length) ?_ (Jg _ _ _) (Ep _ _) (fun _=>rfl) (.inl rfl) rfl (.eq ?_) (.inr ⟨_,rfl,rfl⟩)
     ·rw[<- htk]; rfl
     ·rw[<- hcl]; rfl
   ·conv=>whnf
    refine .mk (by simp only[okI] at *; first|omega|(simp_all; done)|(simp_all; omega)) ?_
    conv=>whnf
    refine⟨k+1,⟨by omega,by omega,fun i h5 h6=>?_⟩,by omega,⟨⟨_,rfl,rfl⟩,trivial⟩,?_,rfl⟩
    ·by_cases e:i=k
     ·subst e; rw[e1] at h4; simpa using h4
     ·exact hne i h5 (by omega)
    ·repeat' (first|exact trivial|exact⟨_,rfl,rfl⟩|constructor)
  ·conv=>whnf
   have hk':l.length<=k:=by simpa using h3
   have hc:ug l=l:=by
    rw[ug,Ji (Nat.le_refl _) (fun i h3 h4=>hne i h3 (by omega)),List.take_length]
   exact jG.one (c:=0) (j:=0) (o:=dG l) (t:=.own 0) rfl rfl rfl (fun _=>rfl) (.inl rfl) rfl (.eq rfl) (.inl ⟨hc,rfl,rfl⟩)
theorem S.WE:aj Tryz.prog 152 [.raw (.lit (.int .u64 0))] (.int 0):=by
 refine aj.of Bd.uM (by simp) rfl rfl ?_
 conv=>whnf
 refine Fork.mk (fun q=>absurd (q.symm.trans ((rfl:decide ((4294967296:Int)<=0)=false))).symm Bool.false_ne_true) (fun _=>?_)
 conv=>whnf
 refine Fork.mk (fun q=>absurd (q.symm.trans ((rfl:decide ((65536:Int)<=0)=false))).symm Bool.false_ne_true) (fun _=>?_)
 conv=>whnf
 refine Fork.mk (fun q=>absurd (q.symm.trans ((rfl:decide ((256:Int)<=0)=false))).symm Bool.false_ne_true) (fun _=>?_)
 conv=>whnf
 refine .mk (by omega) ?_
 conv=>whnf
 repeat(refine VC.mk (by constructor<;>decide) ?_; conv=>whnf)
 exact ak.int (by decide)
theorem S.bitsLen:aj Tryz.prog 129 [.raw (.lit (.int .u64 0))] (.int 0):=by
 refine aj.of Bd.xZ (by simp) rfl rfl ?_
 conv=>whnf
 refine Fork.mk (fun q=>absurd (q.symm.trans ((rfl:false=false))).symm Bool.false_ne_true) (fun _=>?_)
 conv=>whnf
 refine ah.pure (S.WE) rfl ?_
 conv=>whnf
 exact ak.int rfl
theorem S.Tq(n:Nat):aS Tryz.prog 143 (V.aV [.own 0,.int 0,.int 0,.fn 95 []]) (h1 []).au n (fun t hp=>t= .dH []/\hp=(h1 []).au):=by
 refine qA.of (nx:=1) (h0:=h1 []) Bd.dF (by simp) ⟨_,_,rfl,rfl⟩ rfl rfl ?_
 conv=>whnf
 refine .mk (by simp only[okI] at *; first|omega|(simp_all; done)|(simp_all; omega)) ?_
 conv=>whnf
 refine aH.times 1 rfl ?_
 conv=>whnf
 refine Fork.mk (fun q=>absurd (q.symm.trans ((rfl:decide ((0:Int)+1<0)=false))).symm Bool.false_ne_true) (fun _=>?_)
 conv=>whnf
 exact jG.one (c:=0) (j:=0) (o:=dG []) (t:=.dH []) rfl rfl rfl (fun _=>rfl) (.inl rfl) trivial (.eq rfl) ⟨rfl,rfl⟩
theorem S.afE(n:Nat):aS Tryz.prog 128 (V.aV [.own 0,.int 0,.int 0,.int 0,.fn 95 []]) (h1 []).au n (fun t hp=>t= .dH []/\hp=(h1 []).au):=by
 refine qA.of (nx:=1) (h0:=h1 []) Bd.gV (by simp) ⟨_,_,rfl,rfl⟩ rfl rfl ?_
 conv=>whnf
 refine aH.times 1 rfl ?_
 conv=>whnf
 refine .mk (by simp only[okI] at *; first|omega|(simp_all; done)|(simp_all; omega)) ?_
 conv=>whnf
 refine Fork.mk (fun _=>?_) (fun q=>absurd (q.symm.trans ((rfl:decide ((0:Int)-0<=12)=true))) Bool.false_ne_true)
 conv=>whnf
 refine ah.heap (S.Tq _) (fun t hp ⟨e1,e2⟩=>⟨.dH [],h1 [],e1,e2,?_⟩)
 conv=>whnf
 exact jG.one (c:=0) (j:=0) (o:=dG []) (t:=.dH []) rfl rfl rfl (fun _=>rfl) (.inl rfl) trivial (.eq rfl) ⟨rfl,rfl⟩
theorem S.aa7(n:Nat):aS Tryz.prog 98 (V.aV [.own 0,.fn 95 []]) (h1 []).au n (fun t hp=>t= .dH []/\hp=(h1 []).au):=by
 refine qA.of (nx:=1) (h0:=h1 []) Bd.dA (by simp) ⟨_,_,rfl,rfl⟩ rfl rfl ?_
 conv=>whnf
 refine .mk (by simp only[List.length_nil]; omega) ?_
 conv=>whnf
 refine ah.pure (S.bitsLen) rfl ?_
 conv=>whnf
 refine ah.heap (S.afE _) (fun t hp ⟨e1,e2⟩=>⟨.dH [],h1 [],e1,e2,?_⟩)
 conv=>whnf
 exact jG.one (c:=0) (j:=0) (o:=dG []) (t:=.dH []) rfl rfl rfl (fun _=>rfl) (.inl rfl) trivial (.eq rfl) ⟨rfl,rfl⟩
theorem WG: ∀ a b:List Int,cmpL b a= -cmpL a b:=by
 intro a
 induction a with
 |nil=>intro b; cases b<;>rfl
 |cons x a ih =>
  intro b
  cases b with
  |nil=>rfl
  |cons y b =>
   simp only[cmpL]
   by_cases h1:x<y
   ·have h2: ¬ y<x:=by omega
    simp[h1,h2]
   ·by_cases h2:y<x
    ·simp[h1,h2]
    ·simp[h1,h2,ih]
theorem qF(a b:Elem):kU b a= -kU a b:=by
 simp only[kU]
 by_cases h1:a.value<b.value
 ·have h2: ¬ b.value<a.value:=by omega
  simp[h1,h2]
 ·by_cases h2:b.value<a.value
  ·simp[h1,h2]
  ·simp[h1,h2,WG a.counts b.counts]
theorem Tt: ∀ {a b c:List Int},cmpL a b<0->cmpL b c<0->cmpL a c<0:=by
 intro a
 induction a with
 |nil =>
  intro b c h1 h2
  cases b with
  |nil=>simp[cmpL] at h1
  |cons y b=>cases c with
   |nil=>simp[cmpL] at h2
   |cons z c=>simp[cmpL]
 |cons x a ih =>
  intro b c h1 h2
  cases b with
  |nil=>simp[cmpL] at h1
  |cons y b=>cases c with
   |nil=>simp[cmpL] at h2
   |cons z c =>
    simp only[cmpL] at h1 h2 ⊢
    by_cases a1:x<y
    ·by_cases a2:y<z
     ·rw[if_pos (by omega)]; omega
     ·by_cases a3:z<y
      ·simp[a2,a3] at h2
      ·rw[if_pos (by omega)]; omega
    ·by_cases a4:y<x
     ·simp[a1,a4] at h1
     ·simp only[a1,a4,if_false] at h1
      have e:x=y:=by omega
      subst e
      by_cases a2:x<z
      ·simp[a2]
      ·by_cases a3:z<x
       ·simp[a2,a3] at h2
       ·simp only[a2,a3,if_false] at h2 ⊢
        exact ih h1 h2
theorem y9{a b c:Elem}(h1:kU a b<0)(h2:kU b c<0):kU a c<0:=by
 simp only[kU] at h1 h2 ⊢
 by_cases a1:a.value<b.value
 ·by_cases a2:b.value<c.value
  ·rw[if_pos (by omega)]; omega
  ·by_cases a3:c.value<b.value
   ·simp[a2,a3] at h2
   ·rw[if_pos (by omega)]; omega
 ·by_cases a4:b.value<a.value
  ·simp[a1,a4] at h1
  ·simp only[a1,a4,if_false] at h1
   by_cases a2:b.value<c.value
   ·rw[if_pos (by omega)]; omega
   ·by_cases a3:c.value<b.value
    ·simp[a2,a3] at h2
    ·simp only[a2,a3,if_false] at h2
     rw[if_neg (by omega),if_neg (by omega)]
     exact Tt h1 h2
theorem CP{a b c:Elem}(h1: ¬ kU b a<0)(h2: ¬ kU c b<0): ¬ kU c a<0:=by
 rw[qF a b] at h1
 rw[qF b c] at h2
 rw[qF a c]
 by_cases e1:kU a b=0
 ·rw[lV] at e1; subst e1; exact h2
 ·by_cases e2:kU b c=0
  ·rw[lV] at e2; subst e2; exact h1
  ·have:=y9 (a:=a) (b:=b) (c:=c) (by omega) (by omega)
   omega
def Ey(l:List Elem):Prop:=l.Pairwise fun a b=> ¬ kU b a<0
def Tv(e:Elem):List Elem->List Elem
 |[]=>[e]
 |x::r=>if kU x e<0 then x::Tv e r else e::x::r
def ru(l:List Elem):List Elem:=l.foldr Tv []
theorem Me(e:Elem): ∀ l,(Tv e l).Perm (e::l):=by
 intro l
 induction l with
 |nil=>exact .refl _
 |cons x r ih =>
  simp only[Tv]; split
  ·exact((ih.cons x).trans (.swap e x r))
  ·exact .refl _
theorem wB: ∀ l,(ru l).Perm l:=by
 intro l
 induction l with
 |nil=>exact .refl _
 |cons x r ih=>exact(Me x _).trans (ih.cons x)
theorem YO(e:Elem): ∀ l,Ey l->Ey (Tv e l):=by
 intro l
 induction l with
 |nil=>intro _; simp[Ey,Tv]
 |cons x r ih =>
  intro h
  have h':=h
  simp only[Ey,List.pairwise_cons] at h
  simp only[Tv]
  split
  ·rename_i hlt
   simp only[Ey,List.pairwise_cons]
   refine⟨fun y hy=>?_,ih h.2⟩
   rcases List.mem_cons.1 ((Me e r).mem_iff.1 hy) with rfl|hy
   ·rw[qF]; omega
   ·exact h.1 y hy
  ·rename_i hge
   simp only[Ey,List.pairwise_cons]
   refine⟨fun y hy=>?_,h⟩
   rcases List.mem_cons.1 hy with rfl|hy
   ·exact hge
   ·exact CP hge (h.1 y hy)
theorem Bz: ∀ l,Ey (ru l):=by
 intro l
 induction l with
 |nil=>simp[Ey,ru]
 |cons x r ih=>exact YO x _ ih
theorem Tz: ∀ {a b:List Elem},a.Perm b->Ey a->Ey b->a=b:=by
 intro a
 induction a with
 |nil=>intro b hp _ _; exact hp.nil_eq
 |cons x a ih =>
  intro b hp ha hb
  cases b with
  |nil=>exact absurd hp.symm (by simp)
  |cons y b =>
   have h1:=ha; have h2:=hb
   simp only[Ey,List.pairwise_cons] at h1 h2
   have hxy:x=y:=by
    by_cases e:x=y
    ·exact e
    ·have hx:x∈b:=by
      rcases List.mem_cons.1 (hp.mem_iff.1 (by simp:x∈x::a)) with h|h
      ·exact absurd h e
      ·exact h
     have hy:y∈a:=by
      rcases List.mem_cons.1 (hp.mem_iff.2 (by simp:y∈y::b)) with h|h
      ·exact absurd h.symm e
      ·exact h
     have g1:=h1.1 y hy
     have g2:=h2.1 x hx
     rw[qF] at g1
     have:kU x y=0:=by omega
     exact lV.1 this
   subst hxy
   rw[ih (List.Perm.cons_inv hp) h1.2 h2.2]
def CQ:T->Elem
 | .agg [.lit (.int _ v),.sl _ _ l]=>⟨v,l.map x8⟩
 |_=>default
theorem Io(e:Elem):CQ (iJ e)=e:=by
 obtain⟨v,c⟩:=e
 simp only[iJ,CQ]
 congr 1
 rw[List.map_map]
 conv=>rhs; rw[<- List.map_id c]
 exact List.map_congr_left fun x _=>rfl
theorem S.afF{x y:Elem}(hx:x.counts.length<2^40)(hy:y.counts.length<2^40):uh Tryz.prog 95 [iJ x,iJ y] (.int (kU x y)):=S.iT x y hx hy
theorem YP(l:List Elem):(h1 l).au=upd no 0 (some ⟨35,3,l.map iJ⟩):=by
 show Hz.au ((0,some (dG l))::[])=_
 rw[cO]
 simp[dG,OV.aA,Rw.aV,V.aV]; rfl
theorem ac8: ∀ w,(isAgg 35).run Tryz.prog w= .ok true w:=fun w=>sQ (k:=3) (by kernel_rfl)
theorem aeB: ∀ w,(Go.sizeOf 35).run Tryz.prog w= .ok 2 w:=fun w=>gQ (k:=3) (by kernel_rfl)
theorem S.SortFunc(l:List Elem)(n:Nat)(hl:l.length<2^30)(hs:fC l) :
  aS Tryz.prog 98 (V.aV [.own 0,.fn 95 []]) (h1 l).au n (fun t hp=>t= .dH []/\hp=(h1 (ru l)).au):=by
 by_cases hne:l=[]
 ·subst hne
  exact S.aa7 n
 ·have hx: ∀ t∈l.map iJ,∃ e∈l,t=iJ e:=fun t ht=>by obtain⟨e,he,rfl⟩:=List.mem_map.1 ht; exact⟨e,he,rfl⟩
  have H:=aS.sort (n:=n) Tryz.laySort 2 (by decide) ac8 aeB (by exact Bd.dA.cl) (g:=95) (by decide) (by exact Bd.iT.cl) (l:=l.map iJ) (by simpa using hne)
   (fun t ht=>by obtain⟨e,_,rfl⟩:=hx t ht; rfl) (Dy l) (by simp; omega) (fun x y=>kU (CQ x) (CQ y))
   (fun t ht=>by rw[lV.2 rfl]; decide)
   (fun x _ y _ z _ h1 h2=>y9 h1 h2)
   (fun x _ y _ z _ h1 h2=>CP h2 h1)
   (fun x hx1 y hy1=>by
    obtain⟨a,ha,rfl⟩:=hx x hx1
    obtain⟨b,hb,rfl⟩:=hx y hy1
    simp only[Io]; exact S.afF (hs a ha) (hs b hb))
   (by decide) ⟨(ru l).map iJ,(wB l).map iJ,by
    rw[List.pairwise_map]; simp only[Io]; exact Bz l⟩ (h:=(h1 l).au) (i:=0) (ty:=35) (by rw[YP]; rfl)
  refine aS.mono H ?_
  rintro t hp ⟨rfl,l',hp',hpw,rfl⟩
  refine⟨rfl,?_⟩
  have hl':l'=(l'.map CQ).map iJ:=by
   rw[List.map_map]
   conv=>lhs; rw[<- List.map_id l']
   refine List.map_congr_left fun t ht=>?_
   obtain⟨e,_,rfl⟩:=hx t (hp'.mem_iff.1 ht)
   simp[Io]
  have hperm:(l'.map CQ).Perm l:=by
   have:=hp'.map CQ
   rw[List.map_map] at this
   have e:l.map (CQ ∘ iJ)=l:=by
    conv=>rhs; rw[<- List.map_id l]
    exact List.map_congr_left fun e _=>Io e
   rw[e] at this; exact this
  have hsrt:Ey (l'.map CQ):=by
   unfold Ey; rw[List.pairwise_map]; exact hpw
  have heq:l'.map CQ=ru l:=Tz (hperm.trans (wB l).symm) hsrt (Bz l)
  rw[YP,YP]
  rw[hl',heq]
  funext j
  simp only[upd]; split<;>rfl
def xB(l:List Elem):List Elem:=ug (ru l)
theorem MB(l:List Elem):(ru l).length=l.length:=(wB l).length_eq
theorem Qd{l:List Elem}(h:fC l):fC (ru l):=fun e he=>h e ((wB l).mem_iff.1 he)
theorem S.sN(l:List Elem)(n:Nat)(hl:l.length<2^30)(hs:fC l) :
  aS Tryz.prog 64 (V.aV [.own 0]) (h1 l).au n
   (fun t hp=>(t= .own 0/\hp=(h1 (xB l)).au)\/(∃ m,t= .oV 0 0 (xB l).length/\hp=Hz.au [(0,some (.row 35 3 (.elems (xB l)) (List.replicate m zeroV)))])):=by
 refine qA.of (nx:=1) Bd.sN (by simp) ⟨_,_,.inl ⟨rfl,rfl⟩⟩ rfl rfl ?_
 conv=>whnf
 refine ah.heap (S.SortFunc l _ hl hs) ?_
 rintro t hp ⟨rfl,rfl⟩
 refine⟨.dH [],h1 (ru l),rfl,rfl,?_⟩
 conv=>whnf
 refine ah.heap (S.Qc (ru l) _ (by rw[MB]; exact hl) (Qd hs)) ?_
 rintro t hp (⟨hc,rfl,rfl⟩|⟨m,rfl,rfl⟩)
 ·refine⟨.own 0,h1 (ru l),rfl,rfl,?_⟩
  conv=>whnf
  refine jG.one (c:=0) (j:=0) (o:=dG (ru l)) (t:=.own 0) rfl rfl rfl (fun _=>rfl) (.inl rfl) rfl (.eq rfl) (.inl ⟨rfl,?_⟩)
  rw[xB,hc]
 ·refine⟨.oV 0 0 (ug (ru l)).length,[(0,some (.row 35 3 (.elems (ug (ru l))) (List.replicate m zeroV)))],rfl,rfl,?_⟩
  conv=>whnf
  exact jG.one (c:=0) (j:=0) (o:=.row 35 3 (.elems (ug (ru l))) (List.replicate m zeroV)) (t:=.oV 0 0 (ug (ru l)).length) rfl (Jg _ _ _) (Ep _ _) (fun _=>rfl) (.inl rfl) rfl (.eq rfl) (.inr ⟨m,rfl,rfl⟩)
def wC(l:List Elem)(x:Elem):Bool:= !(l.any (Ah x))
def bC(l:List Elem):List Elem:=xB (l.filter (wC l))
theorem Qe{l:List Elem}{p:Elem->Bool}{i:Nat}(h:i<l.length):(l.take (i+1)).filter p=(l.take i).filter p++(if p (l.getD i default)=true then [l.getD i default] else []):=by
 rw[List.take_add_one,List.filter_append]
 congr 1
 simp only[List.getElem?_eq_getElem h,Option.toList_some,List.getD_eq_getElem?_getD,Option.getD_some,List.filter_cons,List.filter_nil]
theorem ak.aaW{h:Hz}{j m:Nat}{l:List Elem}(q:h.get j=some (.row 35 3 (.elems l) (List.replicate m zeroV))):ak (.row 3 false (.elems l)) (.oV j 0 l.length) h:=⟨by
 show T.sub (fun _=>True) h.au (.sl 3 false (l.map iJ)) (.oV j 0 l.length)
 simp only[T.sub]
 refine⟨trivial,trivial,Dy l,by decide,35,l.map iJ++V.aV (List.replicate m zeroV),?_,by simp,by simp⟩
 exact aP q⟩
theorem S.jL(l:List Elem)(f:Bool)(hl:l.length<2^29)(hs:fC l):aj Tryz.prog 33 [.row 3 f (.elems l)] (.row 3 false (.elems (bC l))):=by
 refine aj.of Bd.jL (by simp) rfl rfl ?_
 conv=>whnf
 refine aH.nil 3 35 3 (by rfl) rfl rfl rfl ?_
 refine aH.objs 1 [0,8,9] (fun i:Nat=>[(10,.int i),(3,.own 0)]) (fun i=>[(0,dG ((l.take i).filter (wC l)))]) (fun i=>i<=l.length) (fun i=>l.length-i) 0 [5] rfl (by decide) (fun _=>rfl) (Nat.zero_le _) ?_ ?_ ?_
 ·exact(sR rfl)
 ·exact⟨⟨rfl,nofun,rfl,rfl,rfl,_,rfl,rfl,rfl,aQ.of_eq rfl⟩,trivial⟩
 conv=>whnf
 refine⟨(sR rfl),rfl,?_⟩
 rintro i hi
 have hfl:((l.take i).filter (wC l)).length<=i:=by
  have:=List.length_filter_le (wC l) (l.take i)
  simp at this; omega
 conv=>whnf
 refine⟨fun h3=>?_,fun h3=>?_⟩
 ·have hi':i<l.length:=by simpa using h3
  have hstep:=Qe (p:=wC l) hi'
  conv=>whnf
  refine .mk (by simp only[Rw.rng] at *; first|omega|(simp_all; done)|(simp_all; omega)) ?_
  conv=>whnf
  refine ah.pure (S.La l (l.getD i default) false f (by omega) hs (hs.get i)) rfl ?_
  conv=>whnf
  refine⟨fun h4=>?_,fun h4=>?_⟩
  ·conv=>whnf
   refine ah.pure (S.kR (l.getD i default) (l.any (Ah (l.getD i default))) (hs.get i)) rfl ?_
   conv=>whnf
   repeat(refine VC.mk (by first|(show(((l.take i).filter (wC l)).length+(0+1))*32<=140737488355328/\((l.take i).filter (wC l)).length+(0+1)<=1152921504606846976; omega)|(simp only[okI] at *; first|omega|(simp_all; done)|(simp_all; omega))) ?_; conv=>whnf)
   refine⟨i+1,[25],by omega,by omega,(sR rfl),(sR rfl),⟨rfl,nofun,rfl,rfl,rfl,_,rfl,rfl,rfl,aQ.of_eq ?_⟩,trivial⟩
   rw[hstep,if_pos (show wC l (l.getD i default)=true from h4)]
   show List.map iJ _++[]=List.map iJ _++[iJ _]
   simp
  ·conv=>whnf
   refine .mk (by simp only[okI] at *; first|omega|(simp_all; done)|(simp_all; omega)) ?_
   conv=>whnf
   refine⟨i+1,[0],by omega,by omega,(sR rfl),(sR rfl),⟨rfl,nofun,rfl,rfl,rfl,_,rfl,rfl,rfl,aQ.of_eq ?_⟩,trivial⟩
   rw[hstep,if_neg (by rw[show wC l (l.getD i default)=false from h4]; decide),List.append_nil]
 ·have hi':l.length<=i:=by simpa using h3
  have hA:l.take i=l:=List.take_of_length_le hi'
  rw[hA] at hfl ⊢
  conv=>whnf
  refine ah.heap (S.sN (l.filter (wC l)) _ (by omega) (fun e he=>hs e (List.mem_filter.1 he).1)) ?_
  rintro t hp (⟨rfl,rfl⟩|⟨m,rfl,rfl⟩)
  ·refine⟨.own 0,h1 _,rfl,rfl,?_⟩
   conv=>whnf
   exact ak.ac3 rfl
  ·refine⟨.oV 0 0 _,[(0,some _)],rfl,rfl,?_⟩
   conv=>whnf
   exact ak.aaW rfl
theorem YQ: ∀ {a b:List Int},o9 a b=true->cmpL a b<=0:=by
 intro a
 induction a with
 |nil=>intro b h; cases b<;>simp[o9,cmpL] at *
 |cons x a ih =>
  intro b h
  cases b with
  |nil=>simp[o9] at h
  |cons y b =>
   simp only[o9,Bool.and_eq_true,decide_eq_true_eq] at h
   simp only[cmpL]
   by_cases h1:x<y
   ·simp[h1]
   ·have h2: ¬ y<x:=by omega
    simp only[h1,h2,if_false]; exact ih h.2
theorem P7{a b:Elem}(h:pR a b=true):kU a b<=0:=by
 simp only[pR,Bool.and_eq_true,beq_iff_eq] at h
 simp only[kU]
 rw[if_neg (by omega),if_neg (by omega)]
 exact YQ h.2
theorem WH: ∀ a:List Int,o9 a a=true:=by
 intro a
 induction a with
 |nil=>rfl
 |cons x a ih=>simp[o9,ih]
theorem FT(a:Elem):pR a a=true:=by simp[pR,WH]
theorem TA: ∀ {a b c:List Int},o9 a b=true->o9 b c=true->o9 a c=true:=by
 intro a
 induction a with
 |nil=>intro b c h1 h2; cases b<;>cases c<;>simp[o9] at *
 |cons x a ih =>
  intro b c h1 h2
  cases b with
  |nil=>simp[o9] at h1
  |cons y b=>cases c with
   |nil=>simp[o9] at h2
   |cons z c =>
    simp only[o9,Bool.and_eq_true,decide_eq_true_eq] at *
    exact⟨by omega,ih h1.2 h2.2⟩
theorem yX{a b c:Elem}(h1:pR a b=true)(h2:pR b c=true):pR a c=true:=by
 simp only[pR,Bool.and_eq_true,beq_iff_eq] at *
 exact⟨by omega,TA h1.2 h2.2⟩
theorem yx{x y:Elem}:Ah x y=true↔pR y x=true/\y≠x:=by
 simp only[Ah,Bool.and_eq_true,bne_iff_ne,ne_eq,lV]
theorem NU{x y:Elem}(h:Ah x y=true):kU y x<0:=by
 rw[yx] at h
 have h1:=P7 h.1
 have h2:kU y x≠0:=fun e=>h.2 (lV.1 e)
 omega
def SS(l:List Elem):Prop:=l.Pairwise fun a b=>kU a b<0
theorem F7: ∀ {a b:List Elem},SS a->SS b->(∀ x,x∈a↔x∈b)->a=b:=by
 intro a
 induction a with
 |nil =>
  intro b _ _ h
  cases b with
  |nil=>rfl
  |cons y b=>exact absurd ((h y).2 (by simp)) (by simp)
 |cons x a ih =>
  intro b ha hb h
  cases b with
  |nil=>exact absurd ((h x).1 (by simp)) (by simp)
  |cons y b =>
   simp only[SS,List.pairwise_cons] at ha hb
   have hself: ∀ z:Elem,¬ kU z z<0:=fun z=>by rw[lV.2 rfl]; decide
   have hxy:x=y:=by
    rcases List.mem_cons.1 ((h x).1 (by simp)) with e|hx
    ·exact e
    ·rcases List.mem_cons.1 ((h y).2 (by simp)) with e|hy
     ·exact e.symm
     ·exact absurd (y9 (ha.1 y hy) (hb.1 x hx)) (hself x)
   subst hxy
   rw[ih ha.2 hb.2 fun z=>?_]
   constructor
   ·intro hz
    rcases List.mem_cons.1 ((h z).1 (by simp[hz])) with e|h'
    ·subst e; exact absurd (ha.1 z hz) (hself z)
    ·exact h'
   ·intro hz
    rcases List.mem_cons.1 ((h z).2 (by simp[hz])) with e|h'
    ·subst e; exact absurd (hb.1 z hz) (hself z)
    ·exact h'
theorem MC{l:List Elem}(hs:Ey l): ∀ n,n<=l.length->SS (uf l n)/\(∀ x,x∈uf l n↔x∈l.take n)/\(∀ x∈uf l n,n<l.length-> ¬ kU (l.getD n default) x<0):=by
 intro n
 induction n with
 |zero=>intro _; exact⟨by simp[SS,uf],by simp[uf],by simp[uf]⟩
 |succ n ih =>
  intro hn
  obtain⟨h1,h2,h3⟩:=ih (by omega)
  have hnl:n<l.length:=by omega
  have hmono: ∀ i j,i<=j->j<l.length-> ¬ kU (l.getD j default) (l.getD i default)<0:=by
   intro i j hij hj
   by_cases e:i=j
   ·subst e; rw[lV.2 rfl]; decide
   ·have:=List.pairwise_iff_getElem.1 hs i j (by omega) hj (by omega)
    simpa [hj,show i<l.length by omega] using this
  have htake: ∀ x,x∈l.take n-> ∃ i,i<n/\l.getD i default=x:=by
   intro x hx
   rw[List.mem_take_iff_getElem] at hx
   obtain⟨i,hi,e⟩:=hx
   exact⟨i,by omega,by rw[<- e]; simp[show i<l.length by omega]⟩
  have hlast:l.take (n+1)=l.take n++[l.getD n default]:=by
   rw[List.take_add_one]; simp[hnl]
  simp only[uf]
  split
  ·rename_i hc
   refine⟨?_,?_,?_⟩
   ·simp only[SS,List.pairwise_append]
    refine⟨h1,by simp,fun x hx y hy=>?_⟩
    rw[List.mem_singleton] at hy; subst hy
    have hge:=h3 x hx hnl
    rw[qF] at hge
    have hne:kU x (l.getD n default)≠0:=by
     intro e
     rw[lV] at e
     rcases hc with hc|hc
     ·subst hc; simp[uf] at hx
     ·obtain⟨i,hi,hix⟩:=htake x ((h2 x).1 hx)
      have g1:=hmono i (n-1) (by omega) (by omega)
      have g2:=hmono (n-1) n (by omega) hnl
      rw[hix,e] at g1
      rw[qF] at g1
      have:kU (l.getD n default) (l.getD (n-1) default)=0:=by omega
      exact hc (lV.1 this)
    omega
   ·intro x
    rw[hlast]
    simp only[List.mem_append,h2]
   ·intro x hx hn1
    rcases List.mem_append.1 hx with hx|hx
    ·obtain⟨i,hi,hix⟩:=htake x ((h2 x).1 hx)
     rw[<- hix]; exact hmono i (n+1) (by omega) hn1
    ·rw[List.mem_singleton] at hx; subst hx
     exact hmono n (n+1) (by omega) hn1
  ·rename_i hc
   have hc':n≠0/\l.getD n default=l.getD (n-1) default:=by
    constructor
    ·intro e; exact hc (.inl e)
    ·by_cases e:l.getD n default=l.getD (n-1) default
     ·exact e
     ·exact absurd (.inr e) hc
   refine⟨h1,fun x=>?_,fun x hx hn1=>?_⟩
   ·rw[hlast,h2]
    simp only[List.mem_append,List.mem_singleton]
    constructor
    ·exact .inl
    ·rintro(h|h)
     ·exact h
     ·rw[h,hc'.2]
      rw[List.mem_take_iff_getElem]
      exact⟨n-1,by omega,by simp[show n-1<l.length by omega]⟩
   ·obtain⟨i,hi,hix⟩:=htake x ((h2 x).1 hx)
    rw[<- hix]; exact hmono i (n+1) (by omega) hn1
theorem P8(l:List Elem):SS (xB l):=(MC (Bz l) _ (Nat.le_refl _)).1
theorem Gf(l:List Elem)(x:Elem):x∈xB l↔x∈l:=by
 unfold xB ug
 rw[(MC (Bz l) _ (Nat.le_refl _)).2.1,List.take_length]
 exact(wB l).mem_iff
theorem filter_lt{l:List Elem}{p q:Elem->Bool}(hpq: ∀ x,p x=true->q x=true){y:Elem}(hy:y∈l)(hq:q y=true)(hp:p y=false):(l.filter p).length<(l.filter q).length:=by
 induction l with
 |nil=>cases hy
 |cons x l ih =>
  have hle: ∀ l:List Elem,(l.filter p).length<=(l.filter q).length:=by
   intro l
   induction l with
   |nil=>simp
   |cons z l ih =>
    simp only[List.filter_cons]
    by_cases h1:p z=true
    ·rw[if_pos h1,if_pos (hpq z h1)]; simp; exact ih
    ·rw[if_neg h1]; split
     ·simp; omega
     ·exact ih
  simp only[List.filter_cons]
  rcases List.mem_cons.1 hy with rfl|hy
  ·rw[if_neg (by rw[hp]; decide),if_pos hq]
   have:=hle l
   simp; omega
  ·have:=ih hy
   by_cases h1:p x=true
   ·rw[if_pos h1,if_pos (hpq x h1)]; simp; exact this
   ·rw[if_neg h1]; split
    ·simp; omega
    ·exact this
theorem WI(l:List Elem): ∀ (n:Nat) (b:Elem),b∈l->(l.filter fun z=>decide (kU z b<0)).length<=n-> ∃ z∈l,pR z b=true/\l.any (Ah z)=false:=by
 intro n
 induction n with
 |zero =>
  intro b hb hn
  refine⟨b,hb,FT b,?_⟩
  rw[List.any_eq_false]
  intro y hy hab
  have:y∈l.filter fun z=>decide (kU z b<0):=List.mem_filter.2 ⟨hy,by simpa using NU hab⟩
  have:=List.length_pos_of_mem this
  omega
 |succ n ih =>
  intro b hb hn
  cases hm:l.any (Ah b) with
  |false=>exact⟨b,hb,FT b,hm⟩
  |true =>
   rw[List.any_eq_true] at hm
   obtain⟨y,hy,hab⟩:=hm
   have hlt:=NU hab
   have hfl:(l.filter fun z=>decide (kU z y<0)).length<(l.filter fun z=>decide (kU z b<0)).length:=by
    refine filter_lt (y:=y) (fun x hx=>?_) hy (by simpa using hlt) (by rw[lV.2 rfl]; decide)
    simp only[decide_eq_true_eq] at hx ⊢
    exact y9 hx hlt
   obtain⟨z,hz,h1,h2⟩:=ih y hy (by omega)
   exact⟨z,hz,yX h1 (yx.1 hab).1,h2⟩
theorem YJ(l:List Elem){b:Elem}(hb:b∈l): ∃ z∈l,pR z b=true/\l.any (Ah z)=false:=WI l _ b hb (Nat.le_refl _)
theorem any_congr{a b:List Elem}{p:Elem->Bool}(h: ∀ x,x∈a↔x∈b):a.any p=b.any p:=by
 rw[Bool.eq_iff_iff,List.any_eq_true,List.any_eq_true]
 exact⟨fun⟨x,h1,h2⟩=>⟨x,(h x).1 h1,h2⟩,fun⟨x,h1,h2⟩=>⟨x,(h x).2 h1,h2⟩⟩
theorem gG(l:List Elem):SS (bC l)/\ ∀ x,x∈bC l↔x∈l/\l.any (Ah x)=false:=by
 refine⟨P8 _,fun x=>?_⟩
 rw[bC,Gf,List.mem_filter]
 simp[wC]
theorem SE(l:List Elem)(e:Elem):(bC l).any (fun b=>pR b e)=l.any fun b=>pR b e:=by
 rw[Bool.eq_iff_iff,List.any_eq_true,List.any_eq_true]
 constructor
 ·rintro⟨x,h1,h2⟩; exact⟨x,((gG l).2 x |>.1 h1).1,h2⟩
 ·rintro⟨x,h1,h2⟩
  obtain⟨z,hz,hz1,hz2⟩:=YJ l h1
  exact⟨z,((gG l).2 z).2 ⟨hz,hz2⟩,yX hz1 h2⟩
theorem PD(l:List Elem):bC (bC l)=bC l:=by
 refine F7 (gG _).1 (gG l).1 fun x=>?_
 rw[(gG (bC l)).2]
 constructor
 ·exact fun h=>h.1
 ·intro h
  refine⟨h,?_⟩
  have:=((gG l).2 x).1 h
  rw[List.any_eq_false] at this ⊢
  exact fun y hy=>this.2 y (((gG l).2 y).1 hy).1
theorem wE{l:List Elem}{x:Elem}(h:x∈bC l):x∈l:=(((gG l).2 x).1 h).1
theorem Dz(l:List Elem):(bC l).length<=l.length:=by
 have h1:=Il (ru (l.filter (wC l))) (ru (l.filter (wC l))).length
 have h2:=MB (l.filter (wC l))
 have h3:=List.length_filter_le (wC l) l
 show(uf _ _).length<=_
 omega
end Go.Proofs.YtkmldgihhaooaaaGreatDoor
