/-
 A part of the proof. No condition.
-/
import Derived.Test.YtkmldgihhaooaaaGreatDoorSb
import Derived.Test.YtkmldgihhaooaaaGreatDoorLg
import Derived.Test.YtkmldgihhaooaaaGreatDoorLe
import Derived.Test.YtkmldgihhaooaaaGreatDoorSc
namespace Go.Proofs.YtkmldgihhaooaaaGreatDoor
open Go.Ab Go.Proofs
set_option maxRecDepth 100000
def iF:List Int->List Int->Bool
 |[],[]=>true
 |x::a,y::b=>decide (x<=y)&&iF a b
 |_,_=>false
def kU(a b:Elem):Bool:=(a.value==b.value)&&iF a.counts b.counts
theorem jF: ∀ {a b:List Int},iF a b=true↔a.length=b.length/\ ∀ j,j<a.length->a.getD j 0<=b.getD j 0:=by
 intro a
 induction a with
 |nil=>intro b; cases b<;>simp[iF]
 |cons x a ih =>
  intro b
  cases b with
  |nil=>simp[iF]
  |cons y b =>
   simp only[iF,Bool.and_eq_true,decide_eq_true_eq,ih,List.length_cons]
   constructor
   ·rintro⟨h1,h2,h3⟩
    refine⟨by omega,fun j hj=>?_⟩
    cases j with
    |zero=>simpa using h1
    |succ j=>simpa using h3 j (by omega)
   ·rintro⟨h1,h2⟩
    exact⟨by simpa using h2 0 (by omega),by omega,fun j hj=>by simpa using h2 (j+1) (by omega)⟩
theorem S.sF(a b:Elem)(ha:a.counts.length<2^40)(_hb:b.counts.length<2^40):ak Tryz.prog 38 [.dat (.elem a),.dat (.elem b)] (.bool (kU a b)):=by
 refine ak.of Bd.sF (by simp) rfl rfl ?_
 conv=>whnf
 repeat(refine VC.mk (by first|exact id|exact fun h=>⟨h,h⟩|(intro h; rw[h]; rfl)) ?_; conv=>whnf)
 refine⟨fun h1=>?_,fun h1=>?_⟩
 ·conv=>whnf
  refine aj.bool ?_
  by_cases hv:a.value=b.value
  ·have:iF a.counts b.counts=false:=by
    rw[Bool.eq_false_iff]; intro h; rw[jF] at h; simp[hv,h.1] at h1
   simp[kU,this]
  ·simp[kU,hv]
 ·have h2:a.value=b.value/\a.counts.length=b.counts.length:=by
   by_cases hv:a.value=b.value
   ·simp[hv] at h1; exact⟨hv,by omega⟩
   ·simp[hv] at h1
  conv=>whnf
  refine aG.same [3,22,23] (fun i:Nat=>[(24,.int i)]) (fun i=>i<=a.counts.length/\ ∀ j,j<i->a.counts.getD j 0<=b.counts.getD j 0) (fun i=>a.counts.length-i) 0 rfl (by decide) rfl (fun _=>rfl) ⟨by omega,fun j hj=>by omega⟩ ⟨⟨_,rfl,rfl⟩,trivial⟩ ?_
  conv=>whnf
  refine⟨rfl,?_⟩
  rintro i ⟨hi,hall⟩
  conv=>whnf
  refine⟨fun h3=>?_,fun h3=>?_⟩
  ·have hi':i<a.counts.length:=by simpa using h3
   conv=>whnf
   repeat(refine VC.mk (by simp only[Rw.rng] at *; first|omega|(simp_all; done)|(simp_all; omega)) ?_; conv=>whnf)
   refine⟨fun h4=>?_,fun h4=>?_⟩
   ·conv=>whnf
    refine aj.bool ?_
    have:iF a.counts b.counts=false:=by
     rw[Bool.eq_false_iff]; intro h; rw[jF] at h; have:=h.2 i hi'; simp only[Int.toNat_natCast,decide_eq_true_eq] at h4; omega
    simp[kU,this]
   ·conv=>whnf
    refine .mk (by simp only[okI] at *; first|omega|(simp_all; done)|(simp_all; omega)) ?_
    conv=>whnf
    refine⟨i+1,⟨by omega,fun j hj=>?_⟩,by omega,⟨⟨_,rfl,rfl⟩,trivial⟩,?_,rfl⟩
    ·by_cases e:j=i
     ·subst e; simp only[Int.toNat_natCast,decide_eq_false_iff_not] at h4; omega
     ·exact hall j (by omega)
    ·repeat' (first|exact trivial|exact⟨_,rfl,rfl⟩|constructor)
  ·conv=>whnf
   refine aj.bool ?_
   have hi':a.counts.length<=i:=by simpa using h3
   simp only[kU,Bool.and_eq_true,beq_iff_eq]
   rw[Bool.eq_iff_iff]; simp only[iff_true]
   exact⟨h2.1,jF.2 ⟨h2.2,fun j hj=>hall j (by omega)⟩⟩
def Si(a b:Int):Int:=if a<b then -1 else if b<a then 1 else 0
def cmpL:List Int->List Int->Int
 |[],[]=>0
 |[],_::_=> -1
 |_::_,[]=>1
 |x::a,y::b=>if x<y then -1 else if y<x then 1 else cmpL a b
def kP(a b:Elem):Int:=if a.value<b.value then -1 else if b.value<a.value then 1 else cmpL a.counts b.counts
theorem dB{α:Type}{l:List α}{i:Nat}(d:α)(h:i<l.length):l.drop i=l.getD i d::l.drop (i+1):=by
 rw[List.drop_eq_getElem_cons h]; simp[h]
theorem LU{a b:List Int}{i:Nat}(ha:i<a.length)(hb:i<b.length) :
  cmpL (a.drop i) (b.drop i)=if a.getD i 0<b.getD i 0 then -1 else if b.getD i 0<a.getD i 0 then 1 else cmpL (a.drop (i+1)) (b.drop (i+1)):=by
 rw[dB 0 ha,dB 0 hb]; rfl
theorem Ep{a b:List Int}{i:Nat}(hi:a.length<=i\/b.length<=i)(h1:i<=a.length)(h2:i<=b.length) :
  cmpL (a.drop i) (b.drop i)=if a.length<b.length then -1 else if b.length<a.length then 1 else 0:=by
 by_cases ha:a.length<=i
 ·have e:a.drop i=[]:=List.drop_eq_nil_of_le ha
  rw[e]
  by_cases hb:b.length<=i
  ·rw[List.drop_eq_nil_of_le hb,if_neg (by omega),if_neg (by omega)]; rfl
  ·rw[dB 0 (by omega),if_pos (by omega)]; rfl
 ·have hb:b.length<=i:=by omega
  rw[List.drop_eq_nil_of_le hb,dB 0 (by omega),if_neg (by omega),if_pos (by omega)]; rfl
theorem S.cmp_isNaN_int(a:Int):ak Tryz.prog 142 [.int a] (.bool false):=by
 refine ak.of Bd.cmp_isNaN_int (by simp) rfl rfl ?_
 conv=>whnf
 refine aj.bool ?_
 simp
theorem S.cmp_Compare_int(a b:Int):ak Tryz.prog 126 [.int a,.int b] (.int (Si a b)):=by
 refine ak.of Bd.cmp_Compare_int (by simp) rfl rfl ?_
 conv=>whnf
 refine ah.pure (S.cmp_isNaN_int a) rfl ?_
 conv=>whnf
 refine ah.pure (S.cmp_isNaN_int b) rfl ?_
 conv=>whnf
 refine Fork.mk (fun h1=>by cases h1) (fun _=>?_)
 conv=>whnf
 refine Fork.mk (fun h1=>by cases h1) (fun _=>?_)
 conv=>whnf
 refine⟨fun h1=>?_,fun h1=>?_⟩
 ·conv=>whnf
  exact aj.int (by simp only[decide_eq_true_eq] at h1; simp[Si,h1])
 ·conv=>whnf
  simp only[decide_eq_false_iff_not] at h1
  refine⟨fun h2=>?_,fun h2=>?_⟩
  ·conv=>whnf
   exact aj.int (by simp only[decide_eq_true_eq] at h2; simp[Si,h1,h2])
  ·conv=>whnf
   exact aj.int (by simp only[decide_eq_false_iff_not] at h2; simp[Si,h1,h2])
theorem S.Jg(a b:List Int)(ha:a.length<2^40)(hb:b.length<2^40):ak Tryz.prog 127 [.row 0 false (.ints a),.row 0 false (.ints b)] (.int (cmpL a b)):=by
 refine ak.of Bd.kX (by simp) rfl rfl ?_
 conv=>whnf
 refine aG.same [0,1,9,10] (fun i:Nat=>[(11,.int i)]) (fun i=>i<=a.length/\i<=b.length/\cmpL a b=cmpL (a.drop i) (b.drop i)) (fun i=>a.length-i) 0 rfl (by decide) rfl (fun _=>rfl) ⟨by omega,by omega,rfl⟩ ⟨⟨_,rfl,rfl⟩,trivial⟩ ?_
 conv=>whnf
 refine⟨rfl,?_⟩
 rintro i ⟨hi,hj,he⟩
 conv=>whnf
 refine⟨fun h3=>?_,fun h3=>?_⟩
 ·have hi':i<a.length:=by simpa using h3
  conv=>whnf
  refine .mk (by simp only[Rw.rng] at *; first|omega|(simp_all; done)|(simp_all; omega)) ?_
  conv=>whnf
  refine⟨fun h4=>?_,fun h4=>?_⟩
  ·conv=>whnf
   have hb':b.length<=i:=by simpa using h4
   refine aj.int ?_
   rw[he,Ep (.inr hb') hi hj,if_neg (by omega),if_pos (by omega)]
  ·have hb':i<b.length:=by simpa using h4
   conv=>whnf
   refine .mk (by simp only[Rw.rng] at *; first|omega|(simp_all; done)|(simp_all; omega)) ?_
   conv=>whnf
   refine ah.pure (S.cmp_Compare_int _ _) rfl ?_
   rw[LU hi' hb'] at he
   conv=>whnf
   simp only[Int.toNat_natCast]
   refine⟨fun h5=>?_,fun h5=>?_⟩
   ·conv=>whnf
    refine aj.int ?_
    rw[he]
    simp only[bne_iff_ne,ne_eq] at h5 ⊢
    generalize a.getD i 0=x at h5 ⊢
    generalize b.getD i 0=y at h5 ⊢
    unfold Si at h5 ⊢
    by_cases h6:x<y
    ·simp[h6]
    ·by_cases h7:y<x
     ·simp[h6,h7]
     ·simp[h6,h7] at h5
   ·conv=>whnf
    refine .mk (by simp only[okI] at *; first|omega|(simp_all; done)|(simp_all; omega)) ?_
    conv=>whnf
    have h6: ¬ a.getD i 0<b.getD i 0/\ ¬ b.getD i 0<a.getD i 0:=by
     simp only[bne_eq_false_iff_eq] at h5
     generalize a.getD i 0=x at h5 ⊢
     generalize b.getD i 0=y at h5 ⊢
     unfold Si at h5
     by_cases h6:x<y
     ·simp[h6] at h5
     ·by_cases h7:y<x
      ·simp[h6,h7] at h5
      ·exact⟨h6,h7⟩
    refine⟨i+1,⟨by omega,by omega,by rw[he,if_neg h6.1,if_neg h6.2]⟩,by omega,⟨⟨_,rfl,rfl⟩,trivial⟩,?_,rfl⟩
    repeat' (first|exact trivial|exact⟨_,rfl,rfl⟩|constructor)
 ·have hi':a.length<=i:=by simpa using h3
  conv=>whnf
  refine⟨fun h4=>?_,fun h4=>?_⟩
  ·conv=>whnf
   refine aj.int ?_
   rw[he,Ep (.inl hi') hi hj,if_pos (by simpa using h4)]
  ·conv=>whnf
   refine aj.int ?_
   have:b.length<=a.length:=by simpa using h4
   rw[he,Ep (.inl hi') hi hj,if_neg (by omega),if_neg (by omega)]
theorem S.vX(x y:Int)(f:Bool):ak Tryz.prog 125 [.row 0 f (.ints [x,y])] (.int (if x≠0 then x else y)):=by
 refine ak.of Bd.vX (by simp) rfl rfl ?_
 conv=>whnf
 refine aG.same [3,6,7] (fun i:Nat=>[(8,.int i)]) (fun i=>i<=2/\(0<i->x=0)/\(1<i->y=0)) (fun i=>2-i) 0 rfl (by decide) rfl (fun _=>rfl) ⟨by omega,by omega,by omega⟩ ⟨⟨_,rfl,rfl⟩,trivial⟩ ?_
 conv=>whnf
 refine⟨rfl,?_⟩
 rintro i ⟨hi,h0,h1⟩
 conv=>whnf
 refine⟨fun h3=>?_,fun h3=>?_⟩
 ·have hi':i<2:=by simp at h3; omega
  conv=>whnf
  refine .mk (by simp only[Rw.rng,List.length_cons,List.length_nil]; omega) ?_
  conv=>whnf
  refine⟨fun h4=>?_,fun h4=>?_⟩
  ·conv=>whnf
   refine aj.int ?_
   simp only[Int.toNat_natCast,bne_iff_ne,ne_eq] at h4 ⊢
   by_cases e:i=0
   ·subst e; simp at h4 ⊢; simp[h4]
   ·have:i=1:=by omega
    subst this; simp at h4 ⊢; simp[h0]
  ·conv=>whnf
   refine .mk (by simp only[okI] at *; first|omega|(simp_all; done)|(simp_all; omega)) ?_
   conv=>whnf
   refine⟨i+1,⟨by omega,fun _=>?_,fun hlt=>?_⟩,by omega,⟨⟨_,rfl,rfl⟩,trivial⟩,?_,rfl⟩
   ·by_cases e:i=0
    ·subst e; simpa using h4
    ·exact h0 (by omega)
   ·have:i=1:=by omega
    subst this; simpa using h4
   ·repeat' (first|exact trivial|exact⟨_,rfl,rfl⟩|constructor)
 ·have:i=2:=by simp at h3; omega
  subst this
  conv=>whnf
  refine aj.int ?_
  simp[h0,h1]
theorem S.iM(a b:Elem)(ha:a.counts.length<2^40)(hb:b.counts.length<2^40):ak Tryz.prog 95 [.dat (.elem a),.dat (.elem b)] (.int (kP a b)):=by
 refine ak.of Bd.iM (by simp) rfl rfl ?_
 conv=>whnf
 refine ah.pure (S.cmp_Compare_int a.value b.value) rfl ?_
 conv=>whnf
 refine ah.pure (S.Jg a.counts b.counts ha hb) rfl ?_
 conv=>whnf
 refine ah.pure (S.vX _ _ true) rfl ?_
 conv=>whnf
 refine aj.int ?_
 unfold kP Si
 by_cases h6:a.value<b.value
 ·simp[h6]
 ·by_cases h7:b.value<a.value
  ·simp[h6,h7]
  ·simp[h6,h7]
def eF(l:List Elem):Prop:= ∀ e∈l,e.counts.length<2^40
theorem eF.get{l:List Elem}(h:eF l)(i:Nat):(l.getD i default).counts.length<2^40:=by
 rw[List.getD_eq_getElem?_getD]
 cases e:l[i]? with
 |none=>show([]:List Int).length<2^40; decide
 |some x=>exact h x (List.mem_of_getElem? e)
theorem qP{α:Type}{l:List α}{p:α->Bool}{d:α}{i:Nat}(hi:i<l.length)(h:(l.take i).any p=false):(l.take (i+1)).any p=p (l.getD i d):=by
 rw[List.take_add_one,List.any_append,h,Bool.false_or]
 simp[hi]
theorem nU{α:Type}{l:List α}{p:α->Bool}{d:α}{i:Nat}(hi:i<l.length)(h:p (l.getD i d)=true):l.any p=true:=by
 rw[List.any_eq_true]
 exact⟨l[i],List.getElem_mem hi,by simpa [hi] using h⟩
theorem S.iQ(l:List Elem)(e:Elem)(f:Bool)(hl:l.length<2^40)(hs:eF l)(he:e.counts.length<2^40):ak Tryz.prog 34 [.row 3 f (.elems l),.dat (.elem e)] (.bool (l.any fun b=>kU b e)):=by
 refine ak.of Bd.iQ (by simp) rfl rfl ?_
 conv=>whnf
 refine aG.same [3,7,8] (fun i:Nat=>[(9,.int i)]) (fun i=>i<=l.length/\(l.take i).any (fun b=>kU b e)=false) (fun i=>l.length-i) 0 rfl (by decide) rfl (fun _=>rfl) ⟨by omega,by simp⟩ ⟨⟨_,rfl,rfl⟩,trivial⟩ ?_
 conv=>whnf
 refine⟨rfl,?_⟩
 rintro i ⟨hi,hall⟩
 conv=>whnf
 refine⟨fun h3=>?_,fun h3=>?_⟩
 ·have hi':i<l.length:=by simpa using h3
  conv=>whnf
  refine .mk (by simp only[Rw.rng] at *; first|omega|(simp_all; done)|(simp_all; omega)) ?_
  conv=>whnf
  refine ah.pure (S.sF _ _ (by simpa using hs.get i) he) rfl ?_
  conv=>whnf
  refine⟨fun h4=>?_,fun h4=>?_⟩
  ·conv=>whnf
   refine aj.bool ?_
   simp only[Int.toNat_natCast] at h4
   exact nU hi' h4
  ·conv=>whnf
   refine .mk (by simp only[okI] at *; first|omega|(simp_all; done)|(simp_all; omega)) ?_
   conv=>whnf
   simp only[Int.toNat_natCast] at h4
   refine⟨i+1,⟨by omega,by rw[qP hi' hall]; exact h4⟩,by omega,⟨⟨_,rfl,rfl⟩,trivial⟩,?_,rfl⟩
   repeat' (first|exact trivial|exact⟨_,rfl,rfl⟩|constructor)
 ·conv=>whnf
  refine aj.bool ?_
  have hi':l.length<=i:=by simpa using h3
  rw[List.take_of_length_le hi'] at hall; exact hall
theorem S.yE(a b:List Int)(ha:a.length<2^40)(hb:b.length<2^40):ak Tryz.prog 91 [.row 0 false (.ints a),.row 0 false (.ints b)] (.int (cmpL a b)):=by
 refine ak.of Bd.yE (by simp) rfl rfl ?_
 conv=>whnf
 refine aG.same [0,1] (fun i:Nat=>[(5,.int i)]) (fun i=>i<=a.length/\i<=b.length/\cmpL a b=cmpL (a.drop i) (b.drop i)) (fun i=>a.length-i) 0 rfl (by decide) rfl (fun _=>rfl) ⟨by omega,by omega,rfl⟩ ⟨⟨_,rfl,rfl⟩,trivial⟩ ?_
 conv=>whnf
 refine⟨rfl,?_⟩
 rintro i ⟨hi,hj,he⟩
 conv=>whnf
 repeat(refine VC.mk (by first|exact id|exact fun h=>⟨h,h⟩) ?_; conv=>whnf)
 refine⟨fun h3=>?_,fun h3=>?_⟩
 ·have hi':i<a.length/\i<b.length:=by
   by_cases h:i<a.length
   ·simp[h] at h3; exact⟨h,by omega⟩
   ·simp[h] at h3
  rw[LU hi'.1 hi'.2] at he
  obtain⟨hi1,hi2⟩:=hi'
  conv=>whnf
  repeat(refine VC.mk (by simp only[Rw.rng] at *; first|omega|(simp_all; done)|(simp_all; omega)) ?_; conv=>whnf)
  refine⟨fun h5=>?_,fun h5=>?_⟩
  ·conv=>whnf
   refine aj.int ?_
   simp only[Int.toNat_natCast,decide_eq_true_eq] at h5
   rw[he,if_pos h5]
  ·conv=>whnf
   repeat(refine VC.mk (by simp only[Rw.rng] at *; first|omega|(simp_all; done)|(simp_all; omega)) ?_; conv=>whnf)
   simp only[Int.toNat_natCast,decide_eq_false_iff_not] at h5
   refine⟨fun h6=>?_,fun h6=>?_⟩
   ·conv=>whnf
    refine aj.int ?_
    simp only[Int.toNat_natCast,decide_eq_true_eq] at h6
    rw[he,if_neg h5,if_pos h6]
   ·conv=>whnf
    refine .mk (by simp only[okI] at *; first|omega|(simp_all; done)|(simp_all; omega)) ?_
    conv=>whnf
    simp only[Int.toNat_natCast,decide_eq_false_iff_not] at h6
    refine⟨i+1,⟨by omega,by omega,by rw[he,if_neg h5,if_neg h6]⟩,by omega,⟨⟨_,rfl,rfl⟩,trivial⟩,?_,rfl⟩
    repeat' (first|exact trivial|exact⟨_,rfl,rfl⟩|constructor)
 ·have hi':a.length<=i\/b.length<=i:=by
   by_cases h:i<a.length
   ·simp[h] at h3; exact .inr (by omega)
   ·exact .inl (by omega)
  have hx:=Ep hi' hi hj
  rw[<- he] at hx
  conv=>whnf
  refine⟨fun h4=>?_,fun h4=>?_⟩
  ·conv=>whnf
   refine aj.int ?_
   rw[hx,if_pos (by simpa using h4)]
  ·conv=>whnf
   have h5: ¬ a.length<b.length:=by simpa using h4
   refine⟨fun h6=>?_,fun h6=>?_⟩
   ·conv=>whnf
    refine aj.int ?_
    rw[hx,if_neg h5,if_pos (by simpa using h6)]
   ·conv=>whnf
    refine aj.int ?_
    rw[hx,if_neg h5,if_neg (by simpa using h6)]
theorem S.tZ(a b:Elem)(ha:a.counts.length<2^40)(hb:b.counts.length<2^40):ak Tryz.prog 56 [.dat (.elem a),.dat (.elem b)] (.int (kP a b)):=by
 refine ak.of Bd.tZ (by simp) rfl rfl ?_
 conv=>whnf
 refine⟨fun h1=>?_,fun h1=>?_⟩
 ·conv=>whnf
  exact aj.int (by simp only[decide_eq_true_eq] at h1; simp[kP,h1])
 ·conv=>whnf
  simp only[decide_eq_false_iff_not] at h1
  refine⟨fun h2=>?_,fun h2=>?_⟩
  ·conv=>whnf
   exact aj.int (by simp only[decide_eq_true_eq] at h2; simp[kP,h1,h2])
  ·simp only[decide_eq_false_iff_not] at h2
   conv=>whnf
   refine ah.pure (S.yE a.counts b.counts ha hb) rfl ?_
   conv=>whnf
   exact aj.int (by simp[kP,h1,h2])
theorem cmpL_eq: ∀ {a b:List Int},cmpL a b=0↔a=b:=by
 intro a
 induction a with
 |nil=>intro b; cases b<;>simp[cmpL]
 |cons x a ih =>
  intro b
  cases b with
  |nil=>simp[cmpL]
  |cons y b =>
   simp only[cmpL]
   split
   ·simp; omega
   ·split
    ·simp; omega
    ·rw[ih]; simp; intro _; omega
theorem lV{a b:Elem}:kP a b=0↔a=b:=by
 obtain⟨v,c⟩:=a; obtain⟨w,d⟩:=b
 simp only[kP]
 split
 ·simp; omega
 ·split
  ·simp; omega
  ·rw[cmpL_eq]; simp; intro _; omega
theorem S.Ak(a b:List Elem)(f g:Bool)(ha:a.length<2^40)(hb:b.length<2^40)(sa:eF a)(sb:eF b):ak Tryz.prog 24 [.row 3 f (.elems a),.row 3 g (.elems b)] (.bool (decide (a=b))):=by
 refine ak.of Bd.Ak (by simp) rfl rfl ?_
 conv=>whnf
 refine⟨fun h1=>?_,fun h1=>?_⟩
 ·conv=>whnf
  refine aj.bool ?_
  refine decide_eq_false ?_
  simp at h1
  rintro rfl; exact h1 rfl
 ·have hlen:a.length=b.length:=by simp at h1; omega
  conv=>whnf
  refine aG.same [0,1] (fun i:Nat=>[(5,.int i)]) (fun i=>i<=a.length/\a.take i=b.take i) (fun i=>a.length-i) 0 rfl (by decide) rfl (fun _=>rfl) ⟨by omega,by simp⟩ ⟨⟨_,rfl,rfl⟩,trivial⟩ ?_
  conv=>whnf
  refine⟨rfl,?_⟩
  rintro i ⟨hi,hall⟩
  conv=>whnf
  refine⟨fun h3=>?_,fun h3=>?_⟩
  ·have hi':i<a.length:=by simpa using h3
   conv=>whnf
   repeat(refine VC.mk (by simp only[Rw.rng] at *; first|omega|(simp_all; done)|(simp_all; omega)) ?_; conv=>whnf)
   refine ah.pure (S.tZ _ _ (by simpa using sa.get i) (by simpa using sb.get i)) rfl ?_
   conv=>whnf
   refine⟨fun h4=>?_,fun h4=>?_⟩
   ·conv=>whnf
    refine aj.bool ?_
    refine decide_eq_false ?_
    rintro rfl
    simp only[Int.toNat_natCast,bne_iff_ne,ne_eq] at h4
    exact h4 (lV.2 rfl)
   ·conv=>whnf
    refine .mk (by simp only[okI] at *; first|omega|(simp_all; done)|(simp_all; omega)) ?_
    conv=>whnf
    simp only[Int.toNat_natCast,bne_eq_false_iff_eq] at h4
    rw[lV] at h4
    refine⟨i+1,⟨by omega,?_⟩,by omega,⟨⟨_,rfl,rfl⟩,trivial⟩,?_,rfl⟩
    ·rw[List.take_add_one,List.take_add_one,hall]
     congr 1
     have hb':i<b.length:=by omega
     simp only[List.getD_eq_getElem?_getD,List.getElem?_eq_getElem hi',List.getElem?_eq_getElem hb',Option.getD_some] at h4
     simp[hi',hb',h4]
    ·repeat' (first|exact trivial|exact⟨_,rfl,rfl⟩|constructor)
  ·conv=>whnf
   refine aj.bool ?_
   have hi':a.length<=i:=by simpa using h3
   rw[List.take_of_length_le hi',List.take_of_length_le (by omega)] at hall
   symm; simpa using hall
def Aa(n:Int):Bool:=decide (0<=n)&&decide (n<=1048576)
theorem S.kQ(l:List Int)(f:Bool)(hl:l.length<2^40):ak Tryz.prog 71 [.row 0 f (.ints l)] (.bool (l.all Aa)):=by
 refine ak.of Bd.kQ (by simp) rfl rfl ?_
 conv=>whnf
 refine aG.same [5,6] (fun i:Nat=>[(7,.int i)]) (fun i=>i<=l.length/\(l.take i).all Aa=true) (fun i=>l.length-i) 0 rfl (by decide) rfl (fun _=>rfl) ⟨by omega,by simp⟩ ⟨⟨_,rfl,rfl⟩,trivial⟩ ?_
 conv=>whnf
 refine⟨rfl,?_⟩
 rintro i ⟨hi,hall⟩
 conv=>whnf
 refine⟨fun h3=>?_,fun h3=>?_⟩
 ·have hi':i<l.length:=by simpa using h3
  conv=>whnf
  repeat(refine VC.mk (by first|exact id|(intro h; rw[h]; rfl)|(simp only[Rw.rng] at *; first|omega|(simp_all; done)|(simp_all; omega))) ?_; conv=>whnf)
  refine⟨fun h4=>?_,fun h4=>?_⟩
  ·conv=>whnf
   refine aj.bool ?_
   simp only[Int.toNat_natCast] at h4
   have h5:Aa (l.getD i 0)=false:=by
    have key: ∀ x:Int,(decide (x<0)||decide (1048576<x))=true->Aa x=false:=by
     intro x h4
     unfold Aa
     by_cases h0:x<0
     ·simp; omega
     ·simp[h0] at h4; simp; omega
    exact key _ h4
   rw[Bool.eq_false_iff]
   intro h
   rw[List.all_eq_true] at h
   have:=h l[i] (List.getElem_mem hi')
   rw[show l.getD i 0=l[i] by simp[hi']] at h5
   rw[this] at h5; cases h5
  ·conv=>whnf
   refine .mk (by simp only[okI] at *; first|omega|(simp_all; done)|(simp_all; omega)) ?_
   conv=>whnf
   simp only[Int.toNat_natCast] at h4
   refine⟨i+1,⟨by omega,?_⟩,by omega,⟨⟨_,rfl,rfl⟩,trivial⟩,?_,rfl⟩
   ·have h5:Aa (l.getD i 0)=true:=by
     have key: ∀ x:Int,(decide (x<0)||decide (1048576<x))=false->Aa x=true:=by
      intro x h4
      unfold Aa
      by_cases h0:x<0
      ·simp[h0] at h4
      ·simp[h0] at h4; simp; omega
     exact key _ h4
    rw[List.take_add_one,List.all_append,hall]
    simpa [hi'] using h5
   ·repeat' (first|exact trivial|exact⟨_,rfl,rfl⟩|constructor)
 ·conv=>whnf
  refine aj.bool ?_
  have hi':l.length<=i:=by simpa using h3
  rw[List.take_of_length_le hi'] at hall; exact hall
def dO(e:Elem):Int:=if 6<e.counts.length then 0 else if e.counts.all Aa=true then e.counts.sum else 0
theorem F6: ∀ {l:List Int},l.all Aa=true->0<=l.sum/\l.sum<=l.length*1048576:=by
 intro l
 induction l with
 |nil=>intro _; simp
 |cons x l ih =>
  intro h
  simp only[List.all_cons,Bool.and_eq_true,Aa,decide_eq_true_eq] at h
  have:=ih h.2
  simp only[List.sum_cons,List.length_cons]
  omega
theorem Py{l:List Int}(h:l.all Aa=true)(i:Nat):(l.take i).all Aa=true:=by
 rw[List.all_eq_true] at h ⊢
 exact fun x hx=>h x (List.mem_of_mem_take hx)
theorem Yl{l:List Int}{i:Nat}(hi:i<l.length):(l.take (i+1)).sum=(l.take i).sum+l.getD i 0:=by
 rw[List.take_add_one,List.sum_append]; simp[hi]
theorem S.nX(e:Elem)(hl:e.counts.length<2^40):ak Tryz.prog 59 [.dat (.elem e)] (.int (dO e)):=by
 refine ak.of Bd.nX (by simp) rfl rfl ?_
 conv=>whnf
 repeat(refine VC.mk id ?_; conv=>whnf)
 refine ah.gJ (fun _=>S.kQ e.counts false hl) rfl ?_
 conv=>whnf
 repeat(refine VC.mk (by first|exact id|(intro h; rw[h]; rfl)) ?_; conv=>whnf)
 refine⟨fun h1=>?_,fun h1=>?_⟩
 ·conv=>whnf
  refine aj.int ?_
  unfold dO
  by_cases h:6<e.counts.length
  ·rw[if_pos h]
  ·rw[if_neg h,if_neg]
   have h': ¬ (6:Int)<e.counts.length:=by omega
   simp[h'] at h1
   intro hh
   rw[List.all_eq_true] at hh
   obtain⟨x,hx,hx'⟩:=h1
   exact absurd (hh x hx) (by simp[hx'])
 ·have h2: ¬ 6<e.counts.length/\e.counts.all Aa=true:=by
   by_cases h:(6:Int)<e.counts.length
   ·simp[h] at h1
   ·simp[h] at h1
    exact⟨by omega,by rw[List.all_eq_true]; exact h1⟩
  conv=>whnf
  refine aG.same [17,18] (fun i:Nat=>[(19,.int i),(3,.int (e.counts.take i).sum)]) (fun i=>i<=e.counts.length) (fun i=>e.counts.length-i) 0 rfl (by decide) rfl (fun _=>rfl) (by omega) ⟨⟨_,rfl,rfl⟩,⟨_,rfl,rfl⟩,trivial⟩ ?_
  conv=>whnf
  refine⟨rfl,?_⟩
  rintro i hi
  have hb:=F6 (Py h2.2 i)
  have hb':((e.counts.take i).length:Int)<=6:=by simp; omega
  conv=>whnf
  refine⟨fun h3=>?_,fun h3=>?_⟩
  ·have hi':i<e.counts.length:=by simpa using h3
   have hs:=Yl hi'
   have hc:=F6 (Py h2.2 (i+1))
   have hc':((e.counts.take (i+1)).length:Int)<=6:=by simp; omega
   conv=>whnf
   repeat(refine VC.mk (by first|(simp only[okI,Int.toNat_natCast] at *; rw[<- hs]; omega)|(simp only[okI,Rw.rng] at *; first|omega|(simp_all; done)|(simp_all; omega))) ?_; conv=>whnf)
   refine⟨i+1,by omega,by omega,⟨⟨_,rfl,rfl⟩,⟨_,rfl,?_⟩,trivial⟩,?_,rfl⟩
   ·rw[hs]; simp[V.aF,rQ]
   ·repeat' (first|exact trivial|exact⟨_,rfl,rfl⟩|constructor)
  ·conv=>whnf
   refine aj.int ?_
   have hi':e.counts.length<=i:=by simpa using h3
   rw[List.take_of_length_le hi']
   simp[dO,h2.1,h2.2]
def Aj(x y:Elem):Bool:=kU y x&&(kP y x !=0)
theorem S.kY(x y:Elem)(d:Bool)(hx:x.counts.length<2^40)(hy:y.counts.length<2^40):ak Tryz.prog 61 [.agg [.int x.value,.row 0 false (.ints x.counts),.bool d],.dat (.elem y)] (.bool (Aj x y)):=by
 refine ak.of Bd.kY (by simp) rfl rfl ?_
 conv=>whnf
 refine ah.pure (S.sF y x hy hx) rfl ?_
 conv=>whnf
 repeat(refine VC.mk (by first|exact id|exact fun h=>⟨h,h⟩) ?_; conv=>whnf)
 refine ah.gJ (fun _=>S.iM y x hy hx) rfl ?_
 conv=>whnf
 repeat(refine VC.mk id ?_; conv=>whnf)
 refine aj.bool ?_
 cases h:kU y x<;>simp[Aj,h]
def aaM(p:Elem->Bool)(l:List Elem):Int:=if l.any p=true then(l.findIdx p:Int) else -1
theorem KO{p:Elem->Bool}{l:List Elem}{i:Nat}(hi:i<l.length)(h0:(l.take i).any p=false)(h1:p (l.getD i default)=true):l.findIdx p=i:=by
 rw[List.findIdx_eq hi]
 refine⟨by simpa [hi] using h1,fun j hj=>?_⟩
 rw[List.any_eq_false] at h0
 have:=h0 l[j] (by rw[List.mem_take_iff_getElem]; exact⟨j,by omega,rfl⟩)
 simpa using this
theorem S.Sj(l:List Elem)(x:Elem)(d f:Bool)(hl:l.length<2^40)(hs:eF l)(hx:x.counts.length<2^40) :
  ak Tryz.prog 97 [.row 3 f (.elems l),.fn (61+4096) [.int x.value,.row 0 false (.ints x.counts),.bool d]] (.int (aaM (Aj x) l)):=by
 refine ak.of Bd.eG (by simp) rfl rfl ?_
 conv=>whnf
 refine aG.same [0,1,6,7] (fun i:Nat=>[(8,.int i)]) (fun i=>i<=l.length/\(l.take i).any (Aj x)=false) (fun i=>l.length-i) 0 rfl (by decide) rfl (fun _=>rfl) ⟨by omega,by simp⟩ ⟨⟨_,rfl,rfl⟩,trivial⟩ ?_
 conv=>whnf
 refine⟨rfl,?_⟩
 rintro i ⟨hi,hall⟩
 conv=>whnf
 refine⟨fun h3=>?_,fun h3=>?_⟩
 ·have hi':i<l.length:=by simpa using h3
  conv=>whnf
  refine .mk (by simp only[Rw.rng] at *; first|omega|(simp_all; done)|(simp_all; omega)) ?_
  conv=>whnf
  refine ah.pure (S.kY x (l.getD i default) d hx (hs.get i)) rfl ?_
  conv=>whnf
  refine⟨fun h4=>?_,fun h4=>?_⟩
  ·conv=>whnf
   refine aj.int ?_
   rw[aaM,if_pos (nU hi' h4),KO hi' hall h4]
  ·conv=>whnf
   refine .mk (by simp only[okI] at *; first|omega|(simp_all; done)|(simp_all; omega)) ?_
   conv=>whnf
   refine⟨i+1,⟨by omega,by rw[qP hi' hall]; exact h4⟩,by omega,⟨⟨_,rfl,rfl⟩,trivial⟩,?_,rfl⟩
   repeat' (first|exact trivial|exact⟨_,rfl,rfl⟩|constructor)
 ·conv=>whnf
  refine aj.int ?_
  have hi':l.length<=i:=by simpa using h3
  rw[List.take_of_length_le hi'] at hall
  rw[aaM,hall]; rfl
theorem S.KP(l:List Elem)(x:Elem)(d f:Bool)(hl:l.length<2^40)(hs:eF l)(hx:x.counts.length<2^40) :
  ak Tryz.prog 62 [.row 3 f (.elems l),.fn (61+4096) [.int x.value,.row 0 false (.ints x.counts),.bool d]] (.bool (l.any (Aj x))):=by
 refine ak.of Bd.dP (by simp) rfl rfl ?_
 conv=>whnf
 refine ah.pure (S.Sj l x d f hl hs hx) rfl ?_
 conv=>whnf
 refine aj.bool ?_
 unfold aaM
 cases h:l.any (Aj x)
 ·simp
 ·simp
theorem S.mX(a b:Elem)(ha:a.counts.length<2^40)(hb:b.counts.length<2^40):ak Tryz.prog 100 [.dat (.elem a),.dat (.elem b)] (.bool (decide (a=b))):=by
 refine ak.of Bd.mX (by simp) rfl rfl ?_
 conv=>whnf
 refine ah.pure (S.iM a b ha hb) rfl ?_
 conv=>whnf
 refine aj.bool ?_
 rw[Bool.eq_iff_iff]; simp only[decide_eq_true_eq,beq_iff_eq]
 exact lV.symm
theorem aj.elem{e:Elem}{n ty:Nat}{h:Hz}(q:h.get n=some (.row ty 0 (.ints e.counts) [])):aj (.dat (.elem e)) (.agg [.int e.value,.own n]) h:=⟨by
 show T.sub (fun _=>True) h.au (gG e) (.agg [.int e.value,.own n])
 simp only[gG,T.sub,T.dJ,and_true]
 refine⟨trivial,trivial,trivial,?_,by decide,ty,?_⟩
 ·rw[iw]; intro t ht; obtain⟨x,_,rfl⟩:=List.mem_map.1 ht; rfl
 ·have:=aQ q; simpa [OV.aA,Rw.aW,V.aW] using this⟩
theorem S.kG(e:Elem)(d:Bool)(he:e.counts.length<2^40):ak Tryz.prog 63 [.agg [.int e.value,.row 0 false (.ints e.counts),.bool d]] (.dat (.elem e)):=by
 refine ak.of Bd.kG (by simp) rfl rfl ?_
 conv=>whnf
 refine .mk (by simp only[nK,nT,Rw.len]; omega) ?_
 conv=>whnf
 exact aj.elem (ty:=3) rfl
theorem ah.lend{P:Program}{dr:Bool}{f:FuncId}{args args':List V}{res:V}{h:Hz}{n:Nat}{K:V->Hz->Prop}{KW:Nat->V->Hz->Prop}(S:ak P f args' res)(hs:T.dJ (fun _=>True) h.au (V.aW args') (V.aW args))(hh:res.aF.hard=true)(hr:res.free=true)(hK:K res h):ah P dr none f args h n K KW :=
 ⟨.inl (zX.lend S hs hh (fun _ e=>by cases e) ⟨res,h,rfl,rfl,fun _=>⟨rfl,V.nZ res hr⟩,hK⟩)⟩
theorem Dq(l:List Elem):T.bY (l.map gG)=true:=by
 rw[iw]; intro t ht; obtain⟨x,_,rfl⟩:=List.mem_map.1 ht; rfl
theorem aI.of_eq{a b:List T}(h:a=b):aI a b:=by subst h; exact .refl _
theorem ah.aer{P:Program}{dr b:Bool}{f:FuncId}{args args':List V}{res:V}{h:Hz}{n:Nat}{K:V->Hz->Prop}{KW:Nat->V->Hz->Prop}(S:b=true->ak P f args' res)(hs:b=true->T.dJ (fun _=>True) h.au (V.aW args') (V.aW args))(hh:res.aF.hard=true)(hr:res.free=true)(hK:K res h):ah P dr (some b) f args h n K KW :=
 ⟨.inl (.inl ⟨res,fun e=>zX.lend (S e) (hs e) hh (fun _ e=>by cases e) ⟨rfl,rfl⟩,hr,hK⟩)⟩
abbrev dF(l:List Elem):OV:=.row 35 3 (.elems l) []
theorem LD{h:Hz}{j:Nat}{l:List Elem}{Z:Nat->Prop}(hz:Z j)(q:h.get j=some (dF l)):T.sub Z h.au (V.row 3 false (.elems l)).aF (V.own j).aF:=by
 show T.sub Z h.au (.sl 3 false (l.map gG)) (.own j)
 simp only[T.sub]
 refine⟨trivial,hz,Dq l,by decide,35,?_⟩
 have:=aQ q; simpa [OV.aA,Rw.aW,V.aW] using this
theorem aj.acR{h:Hz}{j:Nat}{l:List Elem}(q:h.get j=some (dF l)):aj (.row 3 false (.elems l)) (.own j) h:=⟨LD trivial q⟩
abbrev h1(l:List Elem):Hz:=[(0,some (dF l))]
theorem Yk{l:List Elem}{n:Nat}(hn:0<n):Hz.get n (h1 l)=none:=by
 show(bif Nat.beq 0 n then some (dF l) else none)=none
 rw[aes,if_neg (by omega)]
def pY(out:List Elem)(x:Elem):List Elem:=if(out.any fun b=>kU b x)=true then out else out++[x]
theorem Jd{α β:Type}(f:β->α->β)(b:β){l:List α}{i:Nat}(d:α)(h:i<l.length):(l.take (i+1)).foldl f b=f ((l.take i).foldl f b) (l.getD i d):=by
 rw[List.take_add_one,List.foldl_append]; simp[h]
theorem VP{l:List Elem}{e:Elem}:(pY l e).length<=l.length+1:=by
 unfold pY; split
 ·omega
 ·simp
theorem Yj: ∀ (l acc:List Elem),(l.foldl pY acc).length<=acc.length+l.length:=by
 intro l
 induction l with
 |nil=>intro acc; simp
 |cons x l ih=>intro acc; simp only[List.foldl_cons,List.length_cons]; have:=ih (pY acc x); have:=VP (l:=acc) (e:=x); omega
theorem Ym: ∀ (l acc:List Elem) (x:Elem),x∈l.foldl pY acc->x∈acc\/x∈l:=by
 intro l
 induction l with
 |nil=>intro acc x h; exact .inl h
 |cons y l ih =>
  intro acc x h
  simp only[List.foldl_cons] at h
  rcases ih _ _ h with h|h
  ·unfold pY at h; split at h
   ·exact .inl h
   ·simp only[List.mem_append,List.mem_singleton] at h
    rcases h with h|h
    ·exact .inl h
    ·exact .inr (by simp[h])
  ·exact .inr (by simp[h])
theorem Je{l:List Elem}(h:eF l)(i:Nat):eF ((l.take i).foldl pY []):=fun x hx=>by
 rcases Ym _ _ _ hx with h'|h'
 ·cases h'
 ·exact h x (List.mem_of_mem_take h')
def RZ(l:List Elem):Prop:= ∀ e∈l,e.counts.length<2^30
theorem RZ.e{l:List Elem}(h:RZ l):eF l:=fun e he=>by have:=h e he; omega
def tJ(l:List Elem):Nat->List Elem
 |0=>[]
 |n+1=>if n=0\/l.getD n default≠l.getD (n-1) default then tJ l n++[l.getD n default] else tJ l n
theorem Em(l:List Elem): ∀ n,(tJ l n).length<=n:=by
 intro n
 induction n with
 |zero=>exact Nat.le_refl _
 |succ n ih =>
  simp only[tJ]; split
  ·simp; omega
  ·omega
theorem aaN{l:List Elem}{x:Elem}: ∀ {n},x∈tJ l n->n<=l.length->x∈l:=by
 intro n
 induction n with
 |zero=>intro h; cases h
 |succ n ih =>
  intro h hn
  simp only[tJ] at h
  split at h
  ·rcases List.mem_append.1 h with h|h
   ·exact ih h (by omega)
   ·rw[List.mem_singleton] at h; subst h
    simp[show n<l.length by omega]
  ·exact ih h (by omega)
abbrev zeroV:V:=.agg [.int 0,.row 0 true .nil]
def mid(l:List Elem)(j:Nat):List Elem:=tJ l j++l.drop (tJ l j).length
theorem aaO{l:List Elem}{j:Nat}(h:j<=l.length):(mid l j).length=l.length:=by
 have:=Em l j
 simp[mid]; omega
theorem Uz{l:List Elem}{j i:Nat}(h:(tJ l j).length<=i):(mid l j).getD i default=l.getD i default:=by
 unfold mid
 rw[List.getD_eq_getElem?_getD,List.getElem?_append_right h,List.getElem?_drop,List.getD_eq_getElem?_getD]
 congr 2; omega
theorem aaP{l:List Elem}{j:Nat}(hj:j<l.length)(h:j=0\/l.getD j default≠l.getD (j-1) default):(mid l j).set (tJ l j).length (l.getD j default)=mid l (j+1):=by
 have hl:=Em l j
 have e:tJ l (j+1)=tJ l j++[l.getD j default]:=by simp only[tJ]; rw[if_pos h]
 unfold mid
 rw[e,List.set_append_right _ _ (Nat.le_refl _),Nat.sub_self,dB default (show(tJ l j).length<l.length by omega)]
 simp
theorem Pz{l:List Elem}{j:Nat}(h0:j≠0)(h:l.getD j default=l.getD (j-1) default):tJ l (j+1)=tJ l j:=by
 simp only[tJ]; rw[if_neg]; intro q; rcases q with q|q
 ·exact h0 q
 ·exact q h
theorem Jh{l:List Elem}{k:Nat}(hk:k<=l.length)(h: ∀ i,0<i->i<k->l.getD i default≠l.getD (i-1) default):tJ l k=l.take k:=by
 induction k with
 |zero=>rfl
 |succ k ih =>
  simp only[tJ]
  rw[if_pos,ih (by omega) fun i h1 h2=>h i h1 (by omega),List.take_add_one]
  ·simp[show k<l.length by omega]
  ·by_cases h0:k=0
   ·exact .inl h0
   ·exact .inr (h k (by omega) (by omega))
theorem Jf(l:List Elem)(m nx:Nat):(OV.row 35 3 (.elems l) (List.replicate m zeroV)).good nx=true:=by
 have h1:Es 3 (List.replicate m zeroV)=true:=by
  induction m with
  |zero=>rfl
  |succ m ih=>simp only[List.replicate_succ,Es,ih,Bool.and_true]; rfl
 have h2:T.OX nx (V.aW (List.replicate m zeroV))=true:=by
  clear h1
  induction m with
  |zero=>rfl
  |succ m ih=>simp only[List.replicate_succ,V.aW,T.OX,ih,Bool.and_true]; rfl
 simp only[OV.good,h1,h2]; rfl
theorem Ej(l:List Elem)(m:Nat):(OV.row 35 3 (.elems l) (List.replicate m zeroV)).D8=true:=by
 simp only[OV.D8]
 induction m with
 |zero=>rfl
 |succ m ih=>simp only[List.replicate_succ,V.bY,ih,Bool.and_true]; rfl
def uf(l:List Elem):List Elem:=tJ l l.length
theorem S.PD(l:List Elem)(n:Nat)(hl:l.length<2^30)(hs:eF l) :
  aT Tryz.prog 99 (V.aW [.own 0,.fn 100 []]) (h1 l).au n
   (fun t hp=>(uf l=l/\t= .own 0/\hp=(h1 l).au)\/(∃ m,t= .oH 0 0 (uf l).length/\hp=Hz.au [(0,some (.row 35 3 (.elems (uf l)) (List.replicate m zeroV)))])):=by
 refine pX.of (nx:=1) Bd.dW (by simp) ⟨_,_,.inr ⟨0,rfl,rfl⟩⟩ rfl rfl ?_
 conv=>whnf
 refine⟨fun h1=>?_,fun h1=>?_⟩
 ·conv=>whnf
  have hc:uf l=l:=by
   have h2:l.length<2:=by simp at h1; omega
   rw[uf,Jh (Nat.le_refl _) (fun i h3 h4=>by omega),List.take_length]
  exact jA.one (c:=0) (j:=0) (o:=dF l) (t:=.own 0) rfl rfl rfl (fun _=>rfl) (.inl rfl) rfl (.eq rfl) (.inl ⟨hc,rfl,rfl⟩)
 ·have h2:2<=l.length:=by simp at h1; omega
  conv=>whnf
  refine aG.same [0,1] (fun i:Nat=>[(5,.int i)]) (fun i=>1<=i/\i<=l.length/\ ∀ k,0<k->k<i->l.getD k default≠l.getD (k-1) default) (fun i=>l.length-i) 1 rfl (by decide) rfl (fun _=>rfl) ⟨by omega,by omega,fun k h3 h4=>by omega⟩ ⟨⟨_,rfl,rfl⟩,trivial⟩ ?_
  conv=>whnf
  refine⟨rfl,?_⟩
  rintro k ⟨hk0,hk,hne⟩
  have e1:((k:Int)-1).toNat=k-1:=by omega
  conv=>whnf
  refine⟨fun h3=>?_,fun h3=>?_⟩
  ·have hk':k<l.length:=by simpa using h3
   conv=>whnf
   repeat(refine VC.mk (by simp only[okI,Rw.rng]; omega) ?_; conv=>whnf)
   refine ah.pure (S.mX _ _ (hs.get _) (hs.get _)) rfl ?_
   conv=>whnf
   refine⟨fun h4=>?_,fun h4=>?_⟩
   ·have heq:l.getD k default=l.getD (k-1) default:=by
     rw[e1] at h4; simpa using h4
    have hdk:tJ l k=l.take k:=Jh hk hne
    have acV:tJ l (k+1)=l.take k:=by rw[Pz (by omega) heq,hdk]
    conv=>whnf
    refine .mk (by simp only[Rw.rP]; omega) ?_
    conv=>whnf
    refine aG.objs 1 [0,1,6] (fun j:Nat=>[(7,.int j),(5,.int (tJ l (k+j)).length)]) (fun j=>[(0,dF (mid l (k+j)))]) (fun j=>1<=j/\k+j<=l.length/\(tJ l (k+j)).length+1<=k+j) (fun j=>l.length-j) 1 [0] rfl (by decide) (fun _=>rfl) ⟨by omega,by omega,?_⟩ ?_ ?_ ?_
    ·rw[acV]; simp; omega
    ·refine⟨⟨_,rfl,.eq rfl⟩,⟨_,rfl,.eq ?_⟩,trivial⟩
     rw[acV]
     show T.int (((l.take k).length:Nat):Int)=T.int (k:Int)
     simp[Nat.min_eq_left hk]
    ·refine⟨⟨rfl,(fun _=>rfl),rfl,rfl,rfl,_,rfl,rfl,rfl,aI.of_eq ?_⟩,trivial⟩
     have:mid l (k+1)=l:=by unfold mid; rw[acV]; simp[Nat.min_eq_left hk]
     rw[this]
    conv=>whnf
    refine⟨(sR rfl),rfl,?_⟩
    rintro j ⟨hj0,hj,hdl⟩
    have hml:=aaO hj
    have e2:((j:Int)-1).toNat=j-1:=by omega
    have hsm:eF (mid l (k+j)):=fun x hx=>by
     unfold mid at hx
     rcases List.mem_append.1 hx with hx|hx
     ·exact hs x (aaN hx hj)
     ·exact hs x (List.mem_of_mem_drop hx)
    conv=>whnf
    refine⟨fun h5=>?_,fun h5=>?_⟩
    ·have hj':k+j<l.length:=by
      have h6:j<l.length-k:=by
       have:(j:Int)<(((Rw.elems l).len-k:Nat):Int):=by simpa using h5
       have e3:(Rw.elems l).len=l.length:=rfl
       rw[e3] at this
       omega
      omega
     have g1:=Uz (l:=l) (j:=k+j) (i:=k+j) (by omega)
     have g2:=Uz (l:=l) (j:=k+j) (i:=k+(j-1)) (by omega)
     conv=>whnf
     repeat(refine VC.mk (by first|(simp only[okI]; omega)|(show _/\_<(((l.length-k:Nat)):Int); omega)|(simp only[Rw.rng,hml,Int.toNat_natCast,e2]; omega)|(show(0:Int)<=_/\_<((mid l (k+j)).length:Int); rw[hml]; simp only[Int.toNat_natCast,e2]; omega)) ?_; conv=>whnf)
     refine ah.pure (S.mX _ _ (hsm.get _) (hsm.get _)) rfl ?_
     simp only[Int.toNat_natCast,e2,g1,g2]
     conv=>whnf
     have e4:k+(j-1)=k+j-1:=by omega
     refine⟨fun h6=>?_,fun h6=>?_⟩
     ·have hne':l.getD (k+j) default≠l.getD (k+j-1) default:=by
       rw[e4] at h6; simpa using h6
      have hst:=aaP hj' (.inr hne')
      have hd1:tJ l (k+j+1)=tJ l (k+j)++[l.getD (k+j) default]:=by simp only[tJ]; rw[if_pos (.inr hne')]
      conv=>whnf
      repeat(refine VC.mk (by first|(simp only[okI]; omega)|(show _/\_<(((l.length-k:Nat)):Int); omega)|(simp only[Rw.rng,hml,Int.toNat_natCast]; omega)|(show(0:Int)<=_/\_<((mid l (k+j)).length:Int); rw[hml]; simp only[Int.toNat_natCast]; omega)) ?_; conv=>whnf)
      refine⟨j+1,[0],⟨by omega,by omega,?_⟩,by omega,⟨⟨_,rfl,.eq rfl⟩,⟨_,rfl,.eq ?_⟩,trivial⟩,(sR rfl),⟨rfl,(fun _=>rfl),rfl,rfl,rfl,_,rfl,rfl,rfl,aI.of_eq ?_⟩,trivial⟩
      ·show(tJ l (k+j+1)).length+1<=k+(j+1)
       rw[hd1]; simp; omega
      ·show T.int (((tJ l (k+j+1)).length:Nat):Int)=T.int (((tJ l (k+j)).length:Int)+1)
       rw[hd1]; simp
      ·show(dF (mid l (k+j+1))).aA.l=(OV.row 35 3 (.elems ((mid l (k+j)).set (((tJ l (k+j)).length:Int)).toNat ((mid l (k+j)).getD ((k:Int).toNat+(j:Int).toNat) default))) []).aA.l
       simp only[Int.toNat_natCast,g1,hst]
     ·have heq':l.getD (k+j) default=l.getD (k+j-1) default:=by
       rw[e4] at h6; simpa using h6
      have hd1:tJ l (k+j+1)=tJ l (k+j):=Pz (by omega) heq'
      conv=>whnf
      refine .mk (by simp only[okI] at *; first|omega|(simp_all; done)|(simp_all; omega)) ?_
      conv=>whnf
      refine⟨j+1,[0],⟨by omega,by omega,?_⟩,by omega,⟨⟨_,rfl,.eq rfl⟩,⟨_,rfl,.eq ?_⟩,trivial⟩,(sR rfl),⟨rfl,(fun _=>rfl),rfl,rfl,rfl,_,rfl,rfl,rfl,aI.of_eq ?_⟩,trivial⟩
      ·show(tJ l (k+j+1)).length+1<=k+(j+1)
       rw[hd1]; omega
      ·show T.int (((tJ l (k+j+1)).length:Nat):Int)=T.int ((tJ l (k+j)).length:Int)
       rw[hd1]
      ·show(dF (mid l (k+j+1))).aA.l=(dF (mid l (k+j))).aA.l
       unfold mid; rw[hd1]
    ·have hj':k+j=l.length:=by
      have h6: ¬ (j:Int)<(((Rw.elems l).len-k:Nat):Int):=by simpa using h5
      have e3:(Rw.elems l).len=l.length:=rfl
      rw[e3] at h6
      omega
     have af8:(tJ l (k+j)).length<=l.length:=by have:=Em l (k+j); omega
     conv=>whnf
     repeat(refine VC.mk (by first|(simp only[Rw.rP,hml]; omega)|(refine⟨?_,rfl⟩; show((tJ l (k+j)).length:Int).toNat<=(mid l (k+j)).length; rw[hml,Int.toNat_natCast]; omega)|(show(0:Int)<=((tJ l (k+j)).length:Int)/\((tJ l (k+j)).length:Int)<=(((mid l (k+j)).take ((tJ l (k+j)).length:Int).toNat).length:Int); rw[List.length_take,hml,Int.toNat_natCast]; omega)|(show _<=(mid l (k+j)).length/\(mid l (k+j)).length=(mid l (k+j)).length; rw[hml]; simp only[Int.toNat_natCast]; omega)|(show(0:Int)<=_/\_<=(((mid l (k+j)).take _).length:Int); rw[List.length_take,hml]; simp only[Int.toNat_natCast]; omega)) ?_; conv=>whnf)
     have htk:(mid l (k+j)).take ((tJ l (k+j)).length:Int).toNat=uf l:=by
      rw[Int.toNat_natCast]; unfold mid; rw[List.take_left,hj']; rfl
     have hcl:((tJ l (k+j)).length:Int).toNat=(uf l).length:=by rw[Int.toNat_natCast,hj']; rfl
     refine jA.one (c:=0) (j:=0) (o:=.row 35 3 (.elems (uf l)) (List.replicate ((mid l (k+j)).length-((tJ l (k+j)).length:Int).toNat) zeroV)) (t:=.oH 0 0 (uf l).length) ?_ (Jf _ _ _) (Ej _ _) (fun _=>rfl) (.inl rfl) rfl (.eq ?_) (.inr ⟨_,rfl,rfl⟩)
     ·rw[<- htk]; rfl
     ·rw[<- hcl]; rfl
   ·conv=>whnf
    refine .mk (by simp only[okI] at *; first|omega|(simp_all; done)|(simp_all; omega)) ?_
    conv=>whnf
    refine⟨k+1,⟨by omega,by omega,fun i h5 h6=>?_⟩,by omega,⟨⟨_,rfl,rfl⟩,trivial⟩,?_,rfl⟩
    ·by_cases e:i=k
     ·subst e; rw[e1] at h4; simpa using h4
     ·exact hne i h5 (by omega)
    ·repeat' (first|exact trivial|exact⟨_,rfl,rfl⟩|constructor)
  ·conv=>whnf
   have hk':l.length<=k:=by simpa using h3
   have hc:uf l=l:=by
    rw[uf,Jh (Nat.le_refl _) (fun i h3 h4=>hne i h3 (by omega)),List.take_length]
   exact jA.one (c:=0) (j:=0) (o:=dF l) (t:=.own 0) rfl rfl rfl (fun _=>rfl) (.inl rfl) rfl (.eq rfl) (.inl ⟨hc,rfl,rfl⟩)
theorem S.VQ:ak Tryz.prog 152 [.raw (.lit (.int .u64 0))] (.int 0):=by
 refine ak.of Bd.uK (by simp) rfl rfl ?_
 conv=>whnf
 refine Fork.mk (fun q=>absurd (q.symm.trans ((rfl:decide ((4294967296:Int)<=0)=false))).symm Bool.false_ne_true) (fun _=>?_)
 conv=>whnf
 refine Fork.mk (fun q=>absurd (q.symm.trans ((rfl:decide ((65536:Int)<=0)=false))).symm Bool.false_ne_true) (fun _=>?_)
 conv=>whnf
 refine Fork.mk (fun q=>absurd (q.symm.trans ((rfl:decide ((256:Int)<=0)=false))).symm Bool.false_ne_true) (fun _=>?_)
 conv=>whnf
 refine .mk (by omega) ?_
 conv=>whnf
 repeat(refine VC.mk (by constructor<;>decide) ?_; conv=>whnf)
 exact aj.int (by decide)
theorem S.bitsLen:ak Tryz.prog 129 [.raw (.lit (.int .u64 0))] (.int 0):=by
 refine ak.of Bd.xX (by simp) rfl rfl ?_
 conv=>whnf
 refine Fork.mk (fun q=>absurd (q.symm.trans ((rfl:false=false))).symm Bool.false_ne_true) (fun _=>?_)
 conv=>whnf
 refine ah.pure (S.VQ) rfl ?_
 conv=>whnf
 exact aj.int rfl
theorem S.Sl(n:Nat):aT Tryz.prog 143 (V.aW [.own 0,.int 0,.int 0,.fn 95 []]) (h1 []).au n (fun t hp=>t= .cO []/\hp=(h1 []).au):=by
 refine pX.of (nx:=1) (h0:=h1 []) Bd.dG (by simp) ⟨_,_,rfl,rfl⟩ rfl rfl ?_
 conv=>whnf
 refine .mk (by simp only[okI] at *; first|omega|(simp_all; done)|(simp_all; omega)) ?_
 conv=>whnf
 refine aG.times 1 rfl ?_
 conv=>whnf
 refine Fork.mk (fun q=>absurd (q.symm.trans ((rfl:decide ((0:Int)+1<0)=false))).symm Bool.false_ne_true) (fun _=>?_)
 conv=>whnf
 exact jA.one (c:=0) (j:=0) (o:=dF []) (t:=.cO []) rfl rfl rfl (fun _=>rfl) (.inl rfl) trivial (.eq rfl) ⟨rfl,rfl⟩
theorem S.afu(n:Nat):aT Tryz.prog 128 (V.aW [.own 0,.int 0,.int 0,.int 0,.fn 95 []]) (h1 []).au n (fun t hp=>t= .cO []/\hp=(h1 []).au):=by
 refine pX.of (nx:=1) (h0:=h1 []) Bd.gV (by simp) ⟨_,_,rfl,rfl⟩ rfl rfl ?_
 conv=>whnf
 refine aG.times 1 rfl ?_
 conv=>whnf
 refine .mk (by simp only[okI] at *; first|omega|(simp_all; done)|(simp_all; omega)) ?_
 conv=>whnf
 refine Fork.mk (fun _=>?_) (fun q=>absurd (q.symm.trans ((rfl:decide ((0:Int)-0<=12)=true))) Bool.false_ne_true)
 conv=>whnf
 refine ah.heap (S.Sl _) (fun t hp ⟨e1,e2⟩=>⟨.cO [],h1 [],e1,e2,?_⟩)
 conv=>whnf
 exact jA.one (c:=0) (j:=0) (o:=dF []) (t:=.cO []) rfl rfl rfl (fun _=>rfl) (.inl rfl) trivial (.eq rfl) ⟨rfl,rfl⟩
theorem S.aaQ(n:Nat):aT Tryz.prog 98 (V.aW [.own 0,.fn 95 []]) (h1 []).au n (fun t hp=>t= .cO []/\hp=(h1 []).au):=by
 refine pX.of (nx:=1) (h0:=h1 []) Bd.dA (by simp) ⟨_,_,rfl,rfl⟩ rfl rfl ?_
 conv=>whnf
 refine .mk (by simp only[List.length_nil]; omega) ?_
 conv=>whnf
 refine ah.pure (S.bitsLen) rfl ?_
 conv=>whnf
 refine ah.heap (S.afu _) (fun t hp ⟨e1,e2⟩=>⟨.cO [],h1 [],e1,e2,?_⟩)
 conv=>whnf
 exact jA.one (c:=0) (j:=0) (o:=dF []) (t:=.cO []) rfl rfl rfl (fun _=>rfl) (.inl rfl) trivial (.eq rfl) ⟨rfl,rfl⟩
theorem VR: ∀ a b:List Int,cmpL b a= -cmpL a b:=by
 intro a
 induction a with
 |nil=>intro b; cases b<;>rfl
 |cons x a ih =>
  intro b
  cases b with
  |nil=>rfl
  |cons y b =>
   simp only[cmpL]
   by_cases h1:x<y
   ·have h2: ¬ y<x:=by omega
    simp[h1,h2]
   ·by_cases h2:y<x
    ·simp[h1,h2]
    ·simp[h1,h2,ih]
theorem qg(a b:Elem):kP b a= -kP a b:=by
 simp only[kP]
 by_cases h1:a.value<b.value
 ·have h2: ¬ b.value<a.value:=by omega
  simp[h1,h2]
 ·by_cases h2:b.value<a.value
  ·simp[h1,h2]
  ·simp[h1,h2,VR a.counts b.counts]
theorem Sm: ∀ {a b c:List Int},cmpL a b<0->cmpL b c<0->cmpL a c<0:=by
 intro a
 induction a with
 |nil =>
  intro b c h1 h2
  cases b with
  |nil=>simp[cmpL] at h1
  |cons y b=>cases c with
   |nil=>simp[cmpL] at h2
   |cons z c=>simp[cmpL]
 |cons x a ih =>
  intro b c h1 h2
  cases b with
  |nil=>simp[cmpL] at h1
  |cons y b=>cases c with
   |nil=>simp[cmpL] at h2
   |cons z c =>
    simp only[cmpL] at h1 h2 ⊢
    by_cases a1:x<y
    ·by_cases a2:y<z
     ·rw[if_pos (by omega)]; omega
     ·by_cases a3:z<y
      ·simp[a2,a3] at h2
      ·rw[if_pos (by omega)]; omega
    ·by_cases a4:y<x
     ·simp[a1,a4] at h1
     ·simp only[a1,a4,if_false] at h1
      have e:x=y:=by omega
      subst e
      by_cases a2:x<z
      ·simp[a2]
      ·by_cases a3:z<x
       ·simp[a2,a3] at h2
       ·simp only[a2,a3,if_false] at h2 ⊢
        exact ih h1 h2
theorem y9{a b c:Elem}(h1:kP a b<0)(h2:kP b c<0):kP a c<0:=by
 simp only[kP] at h1 h2 ⊢
 by_cases a1:a.value<b.value
 ·by_cases a2:b.value<c.value
  ·rw[if_pos (by omega)]; omega
  ·by_cases a3:c.value<b.value
   ·simp[a2,a3] at h2
   ·rw[if_pos (by omega)]; omega
 ·by_cases a4:b.value<a.value
  ·simp[a1,a4] at h1
  ·simp only[a1,a4,if_false] at h1
   by_cases a2:b.value<c.value
   ·rw[if_pos (by omega)]; omega
   ·by_cases a3:c.value<b.value
    ·simp[a2,a3] at h2
    ·simp only[a2,a3,if_false] at h2
     rw[if_neg (by omega),if_neg (by omega)]
     exact Sm h1 h2
theorem Ci{a b c:Elem}(h1: ¬ kP b a<0)(h2: ¬ kP c b<0): ¬ kP c a<0:=by
 rw[qg a b] at h1
 rw[qg b c] at h2
 rw[qg a c]
 by_cases e1:kP a b=0
 ·rw[lV] at e1; subst e1; exact h2
 ·by_cases e2:kP b c=0
  ·rw[lV] at e2; subst e2; exact h1
  ·have:=y9 (a:=a) (b:=b) (c:=c) (by omega) (by omega)
   omega
def Et(l:List Elem):Prop:=l.Pairwise fun a b=> ¬ kP b a<0
def Sr(e:Elem):List Elem->List Elem
 |[]=>[e]
 |x::r=>if kP x e<0 then x::Sr e r else e::x::r
def oW(l:List Elem):List Elem:=l.foldr Sr []
theorem LV(e:Elem): ∀ l,(Sr e l).Perm (e::l):=by
 intro l
 induction l with
 |nil=>exact .refl _
 |cons x r ih =>
  simp only[Sr]; split
  ·exact((ih.cons x).trans (.swap e x r))
  ·exact .refl _
theorem vY: ∀ l,(oW l).Perm l:=by
 intro l
 induction l with
 |nil=>exact .refl _
 |cons x r ih=>exact(LV x _).trans (ih.cons x)
theorem Yn(e:Elem): ∀ l,Et l->Et (Sr e l):=by
 intro l
 induction l with
 |nil=>intro _; simp[Et,Sr]
 |cons x r ih =>
  intro h
  have h':=h
  simp only[Et,List.pairwise_cons] at h
  simp only[Sr]
  split
  ·rename_i hlt
   simp only[Et,List.pairwise_cons]
   refine⟨fun y hy=>?_,ih h.2⟩
   rcases List.mem_cons.1 ((LV e r).mem_iff.1 hy) with rfl|hy
   ·rw[qg]; omega
   ·exact h.1 y hy
  ·rename_i hge
   simp only[Et,List.pairwise_cons]
   refine⟨fun y hy=>?_,h⟩
   rcases List.mem_cons.1 hy with rfl|hy
   ·exact hge
   ·exact Ci hge (h.1 y hy)
theorem BF: ∀ l,Et (oW l):=by
 intro l
 induction l with
 |nil=>simp[Et,oW]
 |cons x r ih=>exact Yn x _ ih
theorem Sv: ∀ {a b:List Elem},a.Perm b->Et a->Et b->a=b:=by
 intro a
 induction a with
 |nil=>intro b hp _ _; exact hp.nil_eq
 |cons x a ih =>
  intro b hp ha hb
  cases b with
  |nil=>exact absurd hp.symm (by simp)
  |cons y b =>
   have h1:=ha; have h2:=hb
   simp only[Et,List.pairwise_cons] at h1 h2
   have hxy:x=y:=by
    by_cases e:x=y
    ·exact e
    ·have hx:x∈b:=by
      rcases List.mem_cons.1 (hp.mem_iff.1 (by simp:x∈x::a)) with h|h
      ·exact absurd h e
      ·exact h
     have hy:y∈a:=by
      rcases List.mem_cons.1 (hp.mem_iff.2 (by simp:y∈y::b)) with h|h
      ·exact absurd h.symm e
      ·exact h
     have g1:=h1.1 y hy
     have g2:=h2.1 x hx
     rw[qg] at g1
     have:kP x y=0:=by omega
     exact lV.1 this
   subst hxy
   rw[ih (List.Perm.cons_inv hp) h1.2 h2.2]
def Cj:T->Elem
 | .agg [.lit (.int _ v),.sl _ _ l]=>⟨v,l.map xY⟩
 |_=>default
theorem Ip(e:Elem):Cj (gG e)=e:=by
 obtain⟨v,c⟩:=e
 simp only[gG,Cj]
 congr 1
 rw[List.map_map]
 conv=>rhs; rw[<- List.map_id c]
 exact List.map_congr_left fun x _=>rfl
theorem S.afv{x y:Elem}(hx:x.counts.length<2^40)(hy:y.counts.length<2^40):vZ Tryz.prog 95 [gG x,gG y] (.int (kP x y)):=S.iM x y hx hy
theorem Yo(l:List Elem):(h1 l).au=upd no 0 (some ⟨35,3,l.map gG⟩):=by
 show Hz.au ((0,some (dF l))::[])=_
 rw[cu]
 simp[dF,OV.aA,Rw.aW,V.aW]; rfl
theorem acW: ∀ w,(isAgg 35).run Tryz.prog w= .ok true w:=fun w=>sN (k:=3) (by kernel_rfl)
theorem aeu: ∀ w,(Go.sizeOf 35).run Tryz.prog w= .ok 2 w:=fun w=>gK (k:=3) (by kernel_rfl)
theorem S.SortFunc(l:List Elem)(n:Nat)(hl:l.length<2^30)(hs:eF l) :
  aT Tryz.prog 98 (V.aW [.own 0,.fn 95 []]) (h1 l).au n (fun t hp=>t= .cO []/\hp=(h1 (oW l)).au):=by
 by_cases hne:l=[]
 ·subst hne
  exact S.aaQ n
 ·have hx: ∀ t∈l.map gG,∃ e∈l,t=gG e:=fun t ht=>by obtain⟨e,he,rfl⟩:=List.mem_map.1 ht; exact⟨e,he,rfl⟩
  have H:=aT.sort (n:=n) Tryz.laySort 2 (by decide) acW aeu (by exact Bd.dA.cl) (g:=95) (by decide) (by exact Bd.iM.cl) (l:=l.map gG) (by simpa using hne)
   (fun t ht=>by obtain⟨e,_,rfl⟩:=hx t ht; rfl) (Dq l) (by simp; omega) (fun x y=>kP (Cj x) (Cj y))
   (fun t ht=>by rw[lV.2 rfl]; decide)
   (fun x _ y _ z _ h1 h2=>y9 h1 h2)
   (fun x _ y _ z _ h1 h2=>Ci h2 h1)
   (fun x hx1 y hy1=>by
    obtain⟨a,ha,rfl⟩:=hx x hx1
    obtain⟨b,hb,rfl⟩:=hx y hy1
    simp only[Ip]; exact S.afv (hs a ha) (hs b hb))
   (by decide) ⟨(oW l).map gG,(vY l).map gG,by
    rw[List.pairwise_map]; simp only[Ip]; exact BF l⟩ (h:=(h1 l).au) (i:=0) (ty:=35) (by rw[Yo]; rfl)
  refine aT.mono H ?_
  rintro t hp ⟨rfl,l',hp',hpw,rfl⟩
  refine⟨rfl,?_⟩
  have hl':l'=(l'.map Cj).map gG:=by
   rw[List.map_map]
   conv=>lhs; rw[<- List.map_id l']
   refine List.map_congr_left fun t ht=>?_
   obtain⟨e,_,rfl⟩:=hx t (hp'.mem_iff.1 ht)
   simp[Ip]
  have hperm:(l'.map Cj).Perm l:=by
   have:=hp'.map Cj
   rw[List.map_map] at this
   have e:l.map (Cj ∘ gG)=l:=by
    conv=>rhs; rw[<- List.map_id l]
    exact List.map_congr_left fun e _=>Ip e
   rw[e] at this; exact this
  have hsrt:Et (l'.map Cj):=by
   unfold Et; rw[List.pairwise_map]; exact hpw
  have heq:l'.map Cj=oW l:=Sv (hperm.trans (vY l).symm) hsrt (BF l)
  rw[Yo,Yo]
  rw[hl',heq]
  funext j
  simp only[upd]; split<;>rfl
def uO(l:List Elem):List Elem:=uf (oW l)
theorem FW(l:List Elem):(oW l).length=l.length:=(vY l).length_eq
theorem PE{l:List Elem}(h:eF l):eF (oW l):=fun e he=>h e ((vY l).mem_iff.1 he)
theorem S.sJ(l:List Elem)(n:Nat)(hl:l.length<2^30)(hs:eF l) :
  aT Tryz.prog 64 (V.aW [.own 0]) (h1 l).au n
   (fun t hp=>(t= .own 0/\hp=(h1 (uO l)).au)\/(∃ m,t= .oH 0 0 (uO l).length/\hp=Hz.au [(0,some (.row 35 3 (.elems (uO l)) (List.replicate m zeroV)))])):=by
 refine pX.of (nx:=1) Bd.sJ (by simp) ⟨_,_,.inl ⟨rfl,rfl⟩⟩ rfl rfl ?_
 conv=>whnf
 refine ah.heap (S.SortFunc l _ hl hs) ?_
 rintro t hp ⟨rfl,rfl⟩
 refine⟨.cO [],h1 (oW l),rfl,rfl,?_⟩
 conv=>whnf
 refine ah.heap (S.PD (oW l) _ (by rw[FW]; exact hl) (PE hs)) ?_
 rintro t hp (⟨hc,rfl,rfl⟩|⟨m,rfl,rfl⟩)
 ·refine⟨.own 0,h1 (oW l),rfl,rfl,?_⟩
  conv=>whnf
  refine jA.one (c:=0) (j:=0) (o:=dF (oW l)) (t:=.own 0) rfl rfl rfl (fun _=>rfl) (.inl rfl) rfl (.eq rfl) (.inl ⟨rfl,?_⟩)
  rw[uO,hc]
 ·refine⟨.oH 0 0 (uf (oW l)).length,[(0,some (.row 35 3 (.elems (uf (oW l))) (List.replicate m zeroV)))],rfl,rfl,?_⟩
  conv=>whnf
  exact jA.one (c:=0) (j:=0) (o:=.row 35 3 (.elems (uf (oW l))) (List.replicate m zeroV)) (t:=.oH 0 0 (uf (oW l)).length) rfl (Jf _ _ _) (Ej _ _) (fun _=>rfl) (.inl rfl) rfl (.eq rfl) (.inr ⟨m,rfl,rfl⟩)
def wo(l:List Elem)(x:Elem):Bool:= !(l.any (Aj x))
def bF(l:List Elem):List Elem:=uO (l.filter (wo l))
theorem PG{l:List Elem}{p:Elem->Bool}{i:Nat}(h:i<l.length):(l.take (i+1)).filter p=(l.take i).filter p++(if p (l.getD i default)=true then [l.getD i default] else []):=by
 rw[List.take_add_one,List.filter_append]
 congr 1
 simp only[List.getElem?_eq_getElem h,Option.toList_some,List.getD_eq_getElem?_getD,Option.getD_some,List.filter_cons,List.filter_nil]
theorem aj.X4{h:Hz}{j m:Nat}{l:List Elem}(q:h.get j=some (.row 35 3 (.elems l) (List.replicate m zeroV))):aj (.row 3 false (.elems l)) (.oH j 0 l.length) h:=⟨by
 show T.sub (fun _=>True) h.au (.sl 3 false (l.map gG)) (.oH j 0 l.length)
 simp only[T.sub]
 refine⟨trivial,trivial,Dq l,by decide,35,l.map gG++V.aW (List.replicate m zeroV),?_,by simp,by simp⟩
 exact aQ q⟩
theorem S.kZ(l:List Elem)(f:Bool)(hl:l.length<2^29)(hs:eF l):ak Tryz.prog 33 [.row 3 f (.elems l)] (.row 3 false (.elems (bF l))):=by
 refine ak.of Bd.kZ (by simp) rfl rfl ?_
 conv=>whnf
 refine aG.nil 3 35 3 (by rfl) rfl rfl rfl ?_
 refine aG.objs 1 [0,8,9] (fun i:Nat=>[(10,.int i),(3,.own 0)]) (fun i=>[(0,dF ((l.take i).filter (wo l)))]) (fun i=>i<=l.length) (fun i=>l.length-i) 0 [5] rfl (by decide) (fun _=>rfl) (Nat.zero_le _) ?_ ?_ ?_
 ·exact(sR rfl)
 ·exact⟨⟨rfl,nofun,rfl,rfl,rfl,_,rfl,rfl,rfl,aI.of_eq rfl⟩,trivial⟩
 conv=>whnf
 refine⟨(sR rfl),rfl,?_⟩
 rintro i hi
 have hfl:((l.take i).filter (wo l)).length<=i:=by
  have:=List.length_filter_le (wo l) (l.take i)
  simp at this; omega
 conv=>whnf
 refine⟨fun h3=>?_,fun h3=>?_⟩
 ·have hi':i<l.length:=by simpa using h3
  have hstep:=PG (p:=wo l) hi'
  conv=>whnf
  refine .mk (by simp only[Rw.rng] at *; first|omega|(simp_all; done)|(simp_all; omega)) ?_
  conv=>whnf
  refine ah.pure (S.KP l (l.getD i default) false f (by omega) hs (hs.get i)) rfl ?_
  conv=>whnf
  refine⟨fun h4=>?_,fun h4=>?_⟩
  ·conv=>whnf
   refine ah.pure (S.kG (l.getD i default) (l.any (Aj (l.getD i default))) (hs.get i)) rfl ?_
   conv=>whnf
   repeat(refine VC.mk (by first|(show(((l.take i).filter (wo l)).length+(0+1))*32<=140737488355328/\((l.take i).filter (wo l)).length+(0+1)<=1152921504606846976; omega)|(simp only[okI] at *; first|omega|(simp_all; done)|(simp_all; omega))) ?_; conv=>whnf)
   refine⟨i+1,[25],by omega,by omega,(sR rfl),(sR rfl),⟨rfl,nofun,rfl,rfl,rfl,_,rfl,rfl,rfl,aI.of_eq ?_⟩,trivial⟩
   rw[hstep,if_pos (show wo l (l.getD i default)=true from h4)]
   show List.map gG _++[]=List.map gG _++[gG _]
   simp
  ·conv=>whnf
   refine .mk (by simp only[okI] at *; first|omega|(simp_all; done)|(simp_all; omega)) ?_
   conv=>whnf
   refine⟨i+1,[0],by omega,by omega,(sR rfl),(sR rfl),⟨rfl,nofun,rfl,rfl,rfl,_,rfl,rfl,rfl,aI.of_eq ?_⟩,trivial⟩
   rw[hstep,if_neg (by rw[show wo l (l.getD i default)=false from h4]; decide),List.append_nil]
 ·have hi':l.length<=i:=by simpa using h3
  have hA:l.take i=l:=List.take_of_length_le hi'
  rw[hA] at hfl ⊢
  conv=>whnf
  refine ah.heap (S.sJ (l.filter (wo l)) _ (by omega) (fun e he=>hs e (List.mem_filter.1 he).1)) ?_
  rintro t hp (⟨rfl,rfl⟩|⟨m,rfl,rfl⟩)
  ·refine⟨.own 0,h1 _,rfl,rfl,?_⟩
   conv=>whnf
   exact aj.acR rfl
  ·refine⟨.oH 0 0 _,[(0,some _)],rfl,rfl,?_⟩
   conv=>whnf
   exact aj.X4 rfl
theorem Yp: ∀ {a b:List Int},iF a b=true->cmpL a b<=0:=by
 intro a
 induction a with
 |nil=>intro b h; cases b<;>simp[iF,cmpL] at *
 |cons x a ih =>
  intro b h
  cases b with
  |nil=>simp[iF] at h
  |cons y b =>
   simp only[iF,Bool.and_eq_true,decide_eq_true_eq] at h
   simp only[cmpL]
   by_cases h1:x<y
   ·simp[h1]
   ·have h2: ¬ y<x:=by omega
    simp only[h1,h2,if_false]; exact ih h.2
theorem Pv{a b:Elem}(h:kU a b=true):kP a b<=0:=by
 simp only[kU,Bool.and_eq_true,beq_iff_eq] at h
 simp only[kP]
 rw[if_neg (by omega),if_neg (by omega)]
 exact Yp h.2
theorem VT: ∀ a:List Int,iF a a=true:=by
 intro a
 induction a with
 |nil=>rfl
 |cons x a ih=>simp[iF,ih]
theorem LW(a:Elem):kU a a=true:=by simp[kU,VT]
theorem Sz: ∀ {a b c:List Int},iF a b=true->iF b c=true->iF a c=true:=by
 intro a
 induction a with
 |nil=>intro b c h1 h2; cases b<;>cases c<;>simp[iF] at *
 |cons x a ih =>
  intro b c h1 h2
  cases b with
  |nil=>simp[iF] at h1
  |cons y b=>cases c with
   |nil=>simp[iF] at h2
   |cons z c =>
    simp only[iF,Bool.and_eq_true,decide_eq_true_eq] at *
    exact⟨by omega,ih h1.2 h2.2⟩
theorem Dp{a b c:Elem}(h1:kU a b=true)(h2:kU b c=true):kU a c=true:=by
 simp only[kU,Bool.and_eq_true,beq_iff_eq] at *
 exact⟨by omega,Sz h1.2 h2.2⟩
theorem yC{x y:Elem}:Aj x y=true↔kU y x=true/\y≠x:=by
 simp only[Aj,Bool.and_eq_true,bne_iff_ne,ne_eq,lV]
theorem Nz{x y:Elem}(h:Aj x y=true):kP y x<0:=by
 rw[yC] at h
 have h1:=Pv h.1
 have h2:kP y x≠0:=fun e=>h.2 (lV.1 e)
 omega
def SS(l:List Elem):Prop:=l.Pairwise fun a b=>kP a b<0
theorem LQ: ∀ {a b:List Elem},SS a->SS b->(∀ x,x∈a↔x∈b)->a=b:=by
 intro a
 induction a with
 |nil =>
  intro b _ _ h
  cases b with
  |nil=>rfl
  |cons y b=>exact absurd ((h y).2 (by simp)) (by simp)
 |cons x a ih =>
  intro b ha hb h
  cases b with
  |nil=>exact absurd ((h x).1 (by simp)) (by simp)
  |cons y b =>
   simp only[SS,List.pairwise_cons] at ha hb
   have hself: ∀ z:Elem,¬ kP z z<0:=fun z=>by rw[lV.2 rfl]; decide
   have hxy:x=y:=by
    rcases List.mem_cons.1 ((h x).1 (by simp)) with e|hx
    ·exact e
    ·rcases List.mem_cons.1 ((h y).2 (by simp)) with e|hy
     ·exact e.symm
     ·exact absurd (y9 (ha.1 y hy) (hb.1 x hx)) (hself x)
   subst hxy
   rw[ih ha.2 hb.2 fun z=>?_]
   constructor
   ·intro hz
    rcases List.mem_cons.1 ((h z).1 (by simp[hz])) with e|h'
    ·subst e; exact absurd (ha.1 z hz) (hself z)
    ·exact h'
   ·intro hz
    rcases List.mem_cons.1 ((h z).2 (by simp[hz])) with e|h'
    ·subst e; exact absurd (hb.1 z hz) (hself z)
    ·exact h'
theorem LX{l:List Elem}(hs:Et l): ∀ n,n<=l.length->SS (tJ l n)/\(∀ x,x∈tJ l n↔x∈l.take n)/\(∀ x∈tJ l n,n<l.length-> ¬ kP (l.getD n default) x<0):=by
 intro n
 induction n with
 |zero=>intro _; exact⟨by simp[SS,tJ],by simp[tJ],by simp[tJ]⟩
 |succ n ih =>
  intro hn
  obtain⟨h1,h2,h3⟩:=ih (by omega)
  have hnl:n<l.length:=by omega
  have hmono: ∀ i j,i<=j->j<l.length-> ¬ kP (l.getD j default) (l.getD i default)<0:=by
   intro i j hij hj
   by_cases e:i=j
   ·subst e; rw[lV.2 rfl]; decide
   ·have:=List.pairwise_iff_getElem.1 hs i j (by omega) hj (by omega)
    simpa [hj,show i<l.length by omega] using this
  have htake: ∀ x,x∈l.take n-> ∃ i,i<n/\l.getD i default=x:=by
   intro x hx
   rw[List.mem_take_iff_getElem] at hx
   obtain⟨i,hi,e⟩:=hx
   exact⟨i,by omega,by rw[<- e]; simp[show i<l.length by omega]⟩
  have hlast:l.take (n+1)=l.take n++[l.getD n default]:=by
   rw[List.take_add_one]; simp[hnl]
  simp only[tJ]
  split
  ·rename_i hc
   refine⟨?_,?_,?_⟩
   ·simp only[SS,List.pairwise_append]
    refine⟨h1,by simp,fun x hx y hy=>?_⟩
    rw[List.mem_singleton] at hy; subst hy
    have hge:=h3 x hx hnl
    rw[qg] at hge
    have hne:kP x (l.getD n default)≠0:=by
     intro e
     rw[lV] at e
     rcases hc with hc|hc
     ·subst hc; simp[tJ] at hx
     ·obtain⟨i,hi,hix⟩:=htake x ((h2 x).1 hx)
      have g1:=hmono i (n-1) (by omega) (by omega)
      have g2:=hmono (n-1) n (by omega) hnl
      rw[hix,e] at g1
      rw[qg] at g1
      have:kP (l.getD n default) (l.getD (n-1) default)=0:=by omega
      exact hc (lV.1 this)
    omega
   ·intro x
    rw[hlast]
    simp only[List.mem_append,h2]
   ·intro x hx hn1
    rcases List.mem_append.1 hx with hx|hx
    ·obtain⟨i,hi,hix⟩:=htake x ((h2 x).1 hx)
     rw[<- hix]; exact hmono i (n+1) (by omega) hn1
    ·rw[List.mem_singleton] at hx; subst hx
     exact hmono n (n+1) (by omega) hn1
  ·rename_i hc
   have hc':n≠0/\l.getD n default=l.getD (n-1) default:=by
    constructor
    ·intro e; exact hc (.inl e)
    ·by_cases e:l.getD n default=l.getD (n-1) default
     ·exact e
     ·exact absurd (.inr e) hc
   refine⟨h1,fun x=>?_,fun x hx hn1=>?_⟩
   ·rw[hlast,h2]
    simp only[List.mem_append,List.mem_singleton]
    constructor
    ·exact .inl
    ·rintro(h|h)
     ·exact h
     ·rw[h,hc'.2]
      rw[List.mem_take_iff_getElem]
      exact⟨n-1,by omega,by simp[show n-1<l.length by omega]⟩
   ·obtain⟨i,hi,hix⟩:=htake x ((h2 x).1 hx)
    rw[<- hix]; exact hmono i (n+1) (by omega) hn1
theorem Px(l:List Elem):SS (uO l):=(LX (BF l) _ (Nat.le_refl _)).1
theorem uZ(l:List Elem)(x:Elem):x∈uO l↔x∈l:=by
 unfold uO uf
 rw[(LX (BF l) _ (Nat.le_refl _)).2.1,List.take_length]
 exact(vY l).mem_iff
theorem filter_lt{l:List Elem}{p q:Elem->Bool}(hpq: ∀ x,p x=true->q x=true){y:Elem}(hy:y∈l)(hq:q y=true)(hp:p y=false):(l.filter p).length<(l.filter q).length:=by
 induction l with
 |nil=>cases hy
 |cons x l ih =>
  have hle: ∀ l:List Elem,(l.filter p).length<=(l.filter q).length:=by
   intro l
   induction l with
   |nil=>simp
   |cons z l ih =>
    simp only[List.filter_cons]
    by_cases h1:p z=true
    ·rw[if_pos h1,if_pos (hpq z h1)]; simp; exact ih
    ·rw[if_neg h1]; split
     ·simp; omega
     ·exact ih
  simp only[List.filter_cons]
  rcases List.mem_cons.1 hy with rfl|hy
  ·rw[if_neg (by rw[hp]; decide),if_pos hq]
   have:=hle l
   simp; omega
  ·have:=ih hy
   by_cases h1:p x=true
   ·rw[if_pos h1,if_pos (hpq x h1)]; simp; exact this
   ·rw[if_neg h1]; split
    ·simp; omega
    ·exact this
theorem VU(l:List Elem): ∀ (n:Nat) (b:Elem),b∈l->(l.filter fun z=>decide (kP z b<0)).length<=n-> ∃ z∈l,kU z b=true/\l.any (Aj z)=false:=by
 intro n
 induction n with
 |zero =>
  intro b hb hn
  refine⟨b,hb,LW b,?_⟩
  rw[List.any_eq_false]
  intro y hy hab
  have:y∈l.filter fun z=>decide (kP z b<0):=List.mem_filter.2 ⟨hy,by simpa using Nz hab⟩
  have:=List.length_pos_of_mem this
  omega
 |succ n ih =>
  intro b hb hn
  cases hm:l.any (Aj b) with
  |false=>exact⟨b,hb,LW b,hm⟩
  |true =>
   rw[List.any_eq_true] at hm
   obtain⟨y,hy,hab⟩:=hm
   have hlt:=Nz hab
   have hfl:(l.filter fun z=>decide (kP z y<0)).length<(l.filter fun z=>decide (kP z b<0)).length:=by
    refine filter_lt (y:=y) (fun x hx=>?_) hy (by simpa using hlt) (by rw[lV.2 rfl]; decide)
    simp only[decide_eq_true_eq] at hx ⊢
    exact y9 hx hlt
   obtain⟨z,hz,h1,h2⟩:=ih y hy (by omega)
   exact⟨z,hz,Dp h1 (yC.1 hab).1,h2⟩
theorem Yi(l:List Elem){b:Elem}(hb:b∈l): ∃ z∈l,kU z b=true/\l.any (Aj z)=false:=VU l _ b hb (Nat.le_refl _)
theorem any_congr{a b:List Elem}{p:Elem->Bool}(h: ∀ x,x∈a↔x∈b):a.any p=b.any p:=by
 rw[Bool.eq_iff_iff,List.any_eq_true,List.any_eq_true]
 exact⟨fun⟨x,h1,h2⟩=>⟨x,(h x).1 h1,h2⟩,fun⟨x,h1,h2⟩=>⟨x,(h x).2 h1,h2⟩⟩
theorem lU(l:List Elem):SS (bF l)/\ ∀ x,x∈bF l↔x∈l/\l.any (Aj x)=false:=by
 refine⟨Px _,fun x=>?_⟩
 rw[bF,uZ,List.mem_filter]
 simp[wo]
theorem IY(l:List Elem)(e:Elem):(bF l).any (fun b=>kU b e)=l.any fun b=>kU b e:=by
 rw[Bool.eq_iff_iff,List.any_eq_true,List.any_eq_true]
 constructor
 ·rintro⟨x,h1,h2⟩; exact⟨x,((lU l).2 x |>.1 h1).1,h2⟩
 ·rintro⟨x,h1,h2⟩
  obtain⟨z,hz,hz1,hz2⟩:=Yi l h1
  exact⟨z,((lU l).2 z).2 ⟨hz,hz2⟩,Dp hz1 h2⟩
theorem rZ{l:List Elem}{x:Elem}(h:x∈bF l):x∈l:=(((lU l).2 x).1 h).1
theorem Dt(l:List Elem):(bF l).length<=l.length:=by
 have h1:=Em (oW (l.filter (wo l))) (oW (l.filter (wo l))).length
 have h2:=FW (l.filter (wo l))
 have h3:=List.length_filter_le (wo l) l
 show(tJ _ _).length<=_
 omega
end Go.Proofs.YtkmldgihhaooaaaGreatDoor
