/-
 A part of the proof. No condition.
-/
import Derived.Test.YtkmldgihhaooaaaGreatDoorSb
import Derived.Test.YtkmldgihhaooaaaGreatDoorLg
import Derived.Test.YtkmldgihhaooaaaGreatDoorLe
import Derived.Test.YtkmldgihhaooaaaGreatDoorSc
namespace Go.Proofs.YtkmldgihhaooaaaGreatDoor
open Go.Ab Go.Proofs
set_option maxRecDepth 100000
def ny:List Int->List Int->Bool
 |[],[]=>true
 |x::a,y::b=>decide (x<=y)&&ny a b
 |_,_=>false
def mM(a b:Elem):Bool:=(a.value==b.value)&&ny a.counts b.counts
theorem nC: ∀ {a b:List Int},ny a b=true↔a.length=b.length/\ ∀ j,j<a.length->a.getD j 0<=b.getD j 0:=by
 intro a;induction a with
 |nil=>intro b; cases b<;>simp[ny]
 |cons x a ih =>
  intro b;cases b with
  |nil=>simp[ny]
  |cons y b =>
   simp only[ny,Bool.and_eq_true,decide_eq_true_eq,ih,List.length_cons];constructor
   ·rintro⟨h1,h2,h3⟩;refine⟨by omega,fun j hj=>?_⟩;cases j with
    |zero=>simpa using h1
    |succ j=>simpa using h3 j (by omega)
   ·rintro⟨h1,h2⟩;exact⟨by simpa using h2 0 (by omega),by omega,fun j hj=>by simpa using h2 (j+1) (by omega)⟩
theorem S.vY(a b:Elem)(ha:a.counts.length<2^40)(_hb:b.counts.length<2^40):aj Tryz.prog 38 [.dat (.elem a),.dat (.elem b)] (.bool (mM a b)):=by
 refine aj.of Bd.vY (by simp) rfl rfl ?_;repeat(refine VC.mk (by first|exact id|exact fun h=>⟨h,h⟩|(intro h; rw[h]; rfl)) ?_)
 refine⟨fun h1=>?_,fun h1=>?_⟩
 ·conv=>whnf
  refine ak.bool ?_;by_cases hv:a.value=b.value
  ·have:ny a.counts b.counts=false:=by
    rw[Bool.eq_false_iff]; intro h; rw[nC] at h; simp[hv,h.1] at h1
   simp[mM,this]
  ·simp[mM,hv]
 ·have h2:a.value=b.value/\a.counts.length=b.counts.length:=by
   by_cases hv:a.value=b.value
   ·simp[hv] at h1; exact⟨hv,by omega⟩
   ·simp[hv] at h1
  refine aA.same [3,22,23] (fun i:Nat=>[(24,.int i)]) (fun i=>i<=a.counts.length/\ ∀ j,j<i->a.counts.getD j 0<=b.counts.getD j 0) (fun i=>a.counts.length-i) 0 rfl (by decide) rfl (fun _=>rfl) ⟨by omega,fun j hj=>by omega⟩ ⟨⟨_,rfl,rfl⟩,trivial⟩ ?_;refine⟨rfl,?_⟩;rintro i ⟨hi,hall⟩;refine⟨fun h3=>?_,fun h3=>?_⟩
  ·have hi':i<a.counts.length:=by simpa using h3
   repeat(refine VC.mk (by simp only[Rw.rng] at *; omega) ?_)
   refine⟨fun h4=>?_,fun h4=>?_⟩
   ·conv=>whnf
    refine ak.bool ?_
    have:ny a.counts b.counts=false:=by
     rw[Bool.eq_false_iff]; intro h; rw[nC] at h; have:=h.2 i hi'; simp only[Int.toNat_natCast,decide_eq_true_eq] at h4; omega
    simp[mM,this]
   ·conv=>whnf
    refine .mk (by simp only[okI] at *; omega) ?_;refine⟨i+1,⟨by omega,fun j hj=>?_⟩,by omega,⟨⟨_,rfl,rfl⟩,trivial⟩,?_,rfl⟩
    ·by_cases e:j=i
     ·subst e; simp only[Int.toNat_natCast,decide_eq_false_iff_not] at h4; omega
     ·exact hall j (by omega)
    ·repeat' (first|exact trivial|exact⟨_,rfl,rfl⟩|constructor)
  ·conv=>whnf
   refine ak.bool ?_;have hi':a.counts.length<=i:=by simpa using h3
   simp only[mM,Bool.and_eq_true,beq_iff_eq];rw[Bool.eq_iff_iff]; simp only[iff_true];exact⟨h2.1,nC.2 ⟨h2.2,fun j hj=>hall j (by omega)⟩⟩
def UK(a b:Int):Int:=if a<b then -1 else if b<a then 1 else 0
def cmpL:List Int->List Int->Int
 |[],[]=>0
 |[],_::_=> -1
 |_::_,[]=>1
 |x::a,y::b=>if x<y then -1 else if y<x then 1 else cmpL a b
def gU(a b:Elem):Int:=if a.value<b.value then -1 else if b.value<a.value then 1 else cmpL a.counts b.counts
theorem bY{α:Type}{l:List α}{i:Nat}(d:α)(h:i<l.length):l.drop i=l.getD i d::l.drop (i+1):=by
 rw[List.drop_eq_getElem_cons h]; simp[h]
theorem NR{a b:List Int}{i:Nat}(ha:i<a.length)(hb:i<b.length) :
  cmpL (a.drop i) (b.drop i)=if a.getD i 0<b.getD i 0 then -1 else if b.getD i 0<a.getD i 0 then 1 else cmpL (a.drop (i+1)) (b.drop (i+1)):=by
 rw[bY 0 ha,bY 0 hb]; rfl
theorem FK{a b:List Int}{i:Nat}(hi:a.length<=i\/b.length<=i)(h1:i<=a.length)(h2:i<=b.length) :
  cmpL (a.drop i) (b.drop i)=if a.length<b.length then -1 else if b.length<a.length then 1 else 0:=by
 by_cases ha:a.length<=i
 ·have e:a.drop i=[]:=List.drop_eq_nil_of_le ha;rw[e];by_cases hb:b.length<=i
  ·rw[List.drop_eq_nil_of_le hb,if_neg (by omega),if_neg (by omega)]; rfl
  ·rw[bY 0 (by omega),if_pos (by omega)]; rfl
 ·have hb:b.length<=i:=by omega
  rw[List.drop_eq_nil_of_le hb,bY 0 (by omega),if_neg (by omega),if_pos (by omega)]; rfl
theorem S.cmp_isNaN_int(a:Int):aj Tryz.prog 142 [.int a] (.bool false):=by
 refine aj.of Bd.cmp_isNaN_int (by simp) rfl rfl ?_;refine ak.bool ?_;simp
theorem S.cmp_Compare_int(a b:Int):aj Tryz.prog 126 [.int a,.int b] (.int (UK a b)):=by
 refine aj.of Bd.cmp_Compare_int (by simp) rfl rfl ?_;refine ah.pure (S.cmp_isNaN_int a) rfl ?_;refine ah.pure (S.cmp_isNaN_int b) rfl ?_;refine Fork.mk (fun h1=>by cases h1) (fun _=>?_);refine Fork.mk (fun h1=>by cases h1) (fun _=>?_);refine⟨fun h1=>?_,fun h1=>?_⟩
 ·conv=>whnf
  exact ak.int (by simp only[decide_eq_true_eq] at h1; simp[UK,h1])
 ·conv=>whnf
  simp only[decide_eq_false_iff_not] at h1;refine⟨fun h2=>?_,fun h2=>?_⟩
  ·conv=>whnf
   exact ak.int (by simp only[decide_eq_true_eq] at h2; simp[UK,h1,h2])
  ·conv=>whnf
   exact ak.int (by simp only[decide_eq_false_iff_not] at h2; simp[UK,h1,h2])
theorem S.KD(a b:List Int)(ha:a.length<2^40)(hb:b.length<2^40):aj Tryz.prog 127 [.row 0 false (.ints a),.row 0 false (.ints b)] (.int (cmpL a b)):=by
 refine aj.of Bd.lF (by simp) rfl rfl ?_;refine aA.same [0,1,9,10] (fun i:Nat=>[(11,.int i)]) (fun i=>i<=a.length/\i<=b.length/\cmpL a b=cmpL (a.drop i) (b.drop i)) (fun i=>a.length-i) 0 rfl (by decide) rfl (fun _=>rfl) ⟨by omega,by omega,rfl⟩ ⟨⟨_,rfl,rfl⟩,trivial⟩ ?_;refine⟨rfl,?_⟩;rintro i ⟨hi,hj,he⟩;refine⟨fun h3=>?_,fun h3=>?_⟩
 ·have hi':i<a.length:=by simpa using h3
  refine .mk (by simp only[Rw.rng] at *; omega) ?_;refine⟨fun h4=>?_,fun h4=>?_⟩
  ·conv=>whnf
   have hb':b.length<=i:=by simpa using h4
   refine ak.int ?_;rw[he,FK (.inr hb') hi hj,if_neg (by omega),if_pos (by omega)]
  ·have hb':i<b.length:=by simpa using h4
   refine .mk (by simp only[Rw.rng] at *; omega) ?_;refine ah.pure (S.cmp_Compare_int _ _) rfl ?_;rw[NR hi' hb'] at he;conv=>whnf
   simp only[Int.toNat_natCast];refine⟨fun h5=>?_,fun h5=>?_⟩
   ·conv=>whnf
    refine ak.int ?_;rw[he];simp only[bne_iff_ne,ne_eq] at h5 ⊢;generalize a.getD i 0=x at h5 ⊢;generalize b.getD i 0=y at h5 ⊢;unfold UK at h5 ⊢;by_cases h6:x<y
    ·simp[h6]
    ·by_cases h7:y<x
     ·simp[h6,h7]
     ·simp[h6,h7] at h5
   ·conv=>whnf
    refine .mk (by simp only[okI] at *; omega) ?_;conv=>whnf
    have h6: ¬ a.getD i 0<b.getD i 0/\ ¬ b.getD i 0<a.getD i 0:=by
     simp only[bne_eq_false_iff_eq] at h5;generalize a.getD i 0=x at h5 ⊢;generalize b.getD i 0=y at h5 ⊢;unfold UK at h5;by_cases h6:x<y
     ·simp[h6] at h5
     ·by_cases h7:y<x
      ·simp[h6,h7] at h5
      ·exact⟨h6,h7⟩
    refine⟨i+1,⟨by omega,by omega,by rw[he,if_neg h6.1,if_neg h6.2]⟩,by omega,⟨⟨_,rfl,rfl⟩,trivial⟩,?_,rfl⟩;repeat' (first|exact trivial|exact⟨_,rfl,rfl⟩|constructor)
 ·have hi':a.length<=i:=by simpa using h3
  refine⟨fun h4=>?_,fun h4=>?_⟩
  ·conv=>whnf
   refine ak.int ?_;rw[he,FK (.inl hi') hi hj,if_pos (by simpa using h4)]
  ·conv=>whnf
   refine ak.int ?_
   have:b.length<=a.length:=by simpa using h4
   rw[he,FK (.inl hi') hi hj,if_neg (by omega),if_neg (by omega)]
theorem S.wX(x y:Int)(f:Bool):aj Tryz.prog 125 [.row 0 f (.ints [x,y])] (.int (if x≠0 then x else y)):=by
 refine aj.of Bd.wX (by simp) rfl rfl ?_;refine aA.same [3,6,7] (fun i:Nat=>[(8,.int i)]) (fun i=>i<=2/\(0<i->x=0)/\(1<i->y=0)) (fun i=>2-i) 0 rfl (by decide) rfl (fun _=>rfl) ⟨by omega,by omega,by omega⟩ ⟨⟨_,rfl,rfl⟩,trivial⟩ ?_;refine⟨rfl,?_⟩;rintro i ⟨hi,h0,h1⟩;refine⟨fun h3=>?_,fun h3=>?_⟩
 ·have hi':i<2:=by simp at h3; omega
  refine .mk (by simp only[Rw.rng,List.length_cons,List.length_nil]; omega) ?_;refine⟨fun h4=>?_,fun h4=>?_⟩
  ·conv=>whnf
   refine ak.int ?_;simp only[Int.toNat_natCast,bne_iff_ne,ne_eq] at h4 ⊢;by_cases e:i=0
   ·subst e; simp at h4 ⊢; simp[h4]
   ·have:i=1:=by omega
    subst this; simp at h4 ⊢; simp[h0]
  ·conv=>whnf
   refine .mk (by simp only[okI] at *; omega) ?_;refine⟨i+1,⟨by omega,fun _=>?_,fun hlt=>?_⟩,by omega,⟨⟨_,rfl,rfl⟩,trivial⟩,?_,rfl⟩
   ·by_cases e:i=0
    ·subst e; simpa using h4
    ·exact h0 (by omega)
   ·have:i=1:=by omega
    subst this; simpa using h4
   ·repeat' (first|exact trivial|exact⟨_,rfl,rfl⟩|constructor)
 ·have:i=2:=by simp at h3; omega
  subst this;refine ak.int ?_;simp[h0,h1]
theorem S.iZ(a b:Elem)(ha:a.counts.length<2^40)(hb:b.counts.length<2^40):aj Tryz.prog 95 [.dat (.elem a),.dat (.elem b)] (.int (gU a b)):=by
 refine aj.of Bd.iZ (by simp) rfl rfl ?_;refine ah.pure (S.cmp_Compare_int a.value b.value) rfl ?_;refine ah.pure (S.KD a.counts b.counts ha hb) rfl ?_;refine ah.pure (S.wX _ _ true) rfl ?_;refine ak.int ?_;unfold gU UK;by_cases h6:a.value<b.value
 ·simp[h6]
 ·by_cases h7:b.value<a.value
  ·simp[h6,h7]
  ·simp[h6,h7]
theorem S.FM(a b:Elem)(ha:a.counts.length<2^40)(_hb:b.counts.length<2^40):aj Tryz.prog 70 [.dat (.elem a),.dat (.elem b)] (.bool (mM a b)):=by
 refine aj.of Bd.FM (by simp) rfl rfl ?_;repeat(refine VC.mk (by first|exact id|exact fun h=>⟨h,h⟩|(intro h; rw[h]; rfl)) ?_)
 refine⟨fun h1=>?_,fun h1=>?_⟩
 ·conv=>whnf
  refine ak.bool ?_;by_cases hv:a.value=b.value
  ·have:ny a.counts b.counts=false:=by
    rw[Bool.eq_false_iff]; intro h; rw[nC] at h; simp[hv,h.1] at h1
   simp[mM,this]
  ·simp[mM,hv]
 ·have h2:a.value=b.value/\a.counts.length=b.counts.length:=by
   by_cases hv:a.value=b.value
   ·simp[hv] at h1; exact⟨hv,by omega⟩
   ·simp[hv] at h1
  refine aA.same [2,3] (fun i:Nat=>[(5,.int i)]) (fun i=>i<=a.counts.length/\ ∀ j,j<i->a.counts.getD j 0<=b.counts.getD j 0) (fun i=>a.counts.length-i) 0 rfl (by decide) rfl (fun _=>rfl) ⟨by omega,fun j hj=>by omega⟩ ⟨⟨_,rfl,rfl⟩,trivial⟩ ?_;refine⟨rfl,?_⟩;rintro i ⟨hi,hall⟩;refine⟨fun h3=>?_,fun h3=>?_⟩
  ·have hi':i<a.counts.length:=by simpa using h3
   repeat(refine VC.mk (by simp only[Rw.rng] at *; omega) ?_)
   refine⟨fun h4=>?_,fun h4=>?_⟩
   ·conv=>whnf
    refine ak.bool ?_
    have:ny a.counts b.counts=false:=by
     rw[Bool.eq_false_iff]; intro h; rw[nC] at h; have:=h.2 i hi'; simp only[Int.toNat_natCast,decide_eq_true_eq] at h4; omega
    simp[mM,this]
   ·conv=>whnf
    refine .mk (by simp only[okI] at *; omega) ?_;refine⟨i+1,⟨by omega,fun j hj=>?_⟩,by omega,⟨⟨_,rfl,rfl⟩,trivial⟩,?_,rfl⟩
    ·by_cases e:j=i
     ·subst e; simp only[Int.toNat_natCast,decide_eq_false_iff_not] at h4; omega
     ·exact hall j (by omega)
    ·repeat' (first|exact trivial|exact⟨_,rfl,rfl⟩|constructor)
  ·conv=>whnf
   refine ak.bool ?_;have hi':a.counts.length<=i:=by simpa using h3
   rw[Bool.eq_iff_iff]; simp only[mM,Bool.and_eq_true,beq_iff_eq,iff_true];exact⟨h2.1,nC.2 ⟨h2.2,fun j hj=>hall j (by omega)⟩⟩
def dX(l:List Elem):Prop:= ∀ e∈l,e.counts.length<2^40
theorem dX.get{l:List Elem}(h:dX l)(i:Nat):(l.getD i default).counts.length<2^40:=by
 rw[List.getD_eq_getElem?_getD];cases e:l[i]? with
 |none=>show([]:List Int).length<2^40; decide
 |some x=>exact h x (List.mem_of_getElem? e)
theorem jS{α:Type}{l:List α}{p:α->Bool}{d:α}{i:Nat}(hi:i<l.length)(h:(l.take i).any p=false):(l.take (i+1)).any p=p (l.getD i d):=by
 rw[List.take_add_one,List.any_append,h,Bool.false_or];simp[hi]
theorem ig{α:Type}{l:List α}{p:α->Bool}{d:α}{i:Nat}(hi:i<l.length)(h:p (l.getD i d)=true):l.any p=true:=by
 rw[List.any_eq_true];exact⟨l[i],List.getElem_mem hi,by simpa [hi] using h⟩
theorem S.jV(l:List Elem)(e:Elem)(f:Bool)(hl:l.length<2^40)(hs:dX l)(he:e.counts.length<2^40):aj Tryz.prog 34 [.row 3 f (.elems l),.dat (.elem e)] (.bool (l.any fun b=>mM b e)):=by
 refine aj.of Bd.jV (by simp) rfl rfl ?_;refine aA.same [3,7,8] (fun i:Nat=>[(9,.int i)]) (fun i=>i<=l.length/\(l.take i).any (fun b=>mM b e)=false) (fun i=>l.length-i) 0 rfl (by decide) rfl (fun _=>rfl) ⟨by omega,by simp⟩ ⟨⟨_,rfl,rfl⟩,trivial⟩ ?_;refine⟨rfl,?_⟩;rintro i ⟨hi,hall⟩;refine⟨fun h3=>?_,fun h3=>?_⟩
 ·have hi':i<l.length:=by simpa using h3
  refine .mk (by simp only[Rw.rng] at *; omega) ?_;refine ah.pure (S.vY _ _ (by simpa using hs.get i) he) rfl ?_;refine⟨fun h4=>?_,fun h4=>?_⟩
  ·conv=>whnf
   refine ak.bool ?_;simp only[Int.toNat_natCast] at h4;exact ig hi' h4
  ·conv=>whnf
   refine .mk (by simp only[okI] at *; omega) ?_;conv=>whnf
   simp only[Int.toNat_natCast] at h4;refine⟨i+1,⟨by omega,by rw[jS hi' hall]; exact h4⟩,by omega,⟨⟨_,rfl,rfl⟩,trivial⟩,?_,rfl⟩;repeat' (first|exact trivial|exact⟨_,rfl,rfl⟩|constructor)
 ·conv=>whnf
  refine ak.bool ?_;have hi':l.length<=i:=by simpa using h3
  rw[List.take_of_length_le hi'] at hall; exact hall
theorem S.mO(l:List Elem)(e:Elem)(f:Bool)(hl:l.length<2^40)(hs:dX l)(he:e.counts.length<2^40):aj Tryz.prog 43 [.row 3 f (.elems l),.dat (.elem e)] (.bool (l.any fun b=>mM b e)):=by
 refine aj.of Bd.mO (by simp) rfl rfl ?_;refine aA.same [0,3] (fun i:Nat=>[(5,.int i)]) (fun i=>i<=l.length/\(l.take i).any (fun b=>mM b e)=false) (fun i=>l.length-i) 0 rfl (by decide) rfl (fun _=>rfl) ⟨by omega,by simp⟩ ⟨⟨_,rfl,rfl⟩,trivial⟩ ?_;refine⟨rfl,?_⟩;rintro i ⟨hi,hall⟩;refine⟨fun h3=>?_,fun h3=>?_⟩
 ·have hi':i<l.length:=by simpa using h3
  refine .mk (by simp only[Rw.rng] at *; omega) ?_;refine ah.pure (S.FM _ _ (by simpa using hs.get i) he) rfl ?_;refine⟨fun h4=>?_,fun h4=>?_⟩
  ·conv=>whnf
   refine ak.bool ?_;simp only[Int.toNat_natCast] at h4;exact ig hi' h4
  ·conv=>whnf
   refine .mk (by simp only[okI] at *; omega) ?_;conv=>whnf
   simp only[Int.toNat_natCast] at h4;refine⟨i+1,⟨by omega,by rw[jS hi' hall]; exact h4⟩,by omega,⟨⟨_,rfl,rfl⟩,trivial⟩,?_,rfl⟩;repeat' (first|exact trivial|exact⟨_,rfl,rfl⟩|constructor)
 ·conv=>whnf
  refine ak.bool ?_;have hi':l.length<=i:=by simpa using h3
  rw[List.take_of_length_le hi'] at hall; exact hall
theorem S.y9(a b:List Int)(ha:a.length<2^40)(hb:b.length<2^40):aj Tryz.prog 91 [.row 0 false (.ints a),.row 0 false (.ints b)] (.int (cmpL a b)):=by
 refine aj.of Bd.y9 (by simp) rfl rfl ?_;refine aA.same [0,1] (fun i:Nat=>[(5,.int i)]) (fun i=>i<=a.length/\i<=b.length/\cmpL a b=cmpL (a.drop i) (b.drop i)) (fun i=>a.length-i) 0 rfl (by decide) rfl (fun _=>rfl) ⟨by omega,by omega,rfl⟩ ⟨⟨_,rfl,rfl⟩,trivial⟩ ?_;refine⟨rfl,?_⟩;rintro i ⟨hi,hj,he⟩;repeat(refine VC.mk (by first|exact id|exact fun h=>⟨h,h⟩) ?_)
 refine⟨fun h3=>?_,fun h3=>?_⟩
 ·have hi':i<a.length/\i<b.length:=by
   by_cases h:i<a.length
   ·simp[h] at h3; exact⟨h,by omega⟩
   ·simp[h] at h3
  rw[NR hi'.1 hi'.2] at he;obtain⟨hi1,hi2⟩:=hi';repeat(refine VC.mk (by simp only[Rw.rng] at *; omega) ?_)
  refine⟨fun h5=>?_,fun h5=>?_⟩
  ·conv=>whnf
   refine ak.int ?_;simp only[Int.toNat_natCast,decide_eq_true_eq] at h5;rw[he,if_pos h5]
  ·conv=>whnf
   repeat(refine VC.mk (by simp only[Rw.rng] at *; omega) ?_)
   simp only[Int.toNat_natCast,decide_eq_false_iff_not] at h5;refine⟨fun h6=>?_,fun h6=>?_⟩
   ·conv=>whnf
    refine ak.int ?_;simp only[Int.toNat_natCast,decide_eq_true_eq] at h6;rw[he,if_neg h5,if_pos h6]
   ·conv=>whnf
    refine .mk (by simp only[okI] at *; omega) ?_;conv=>whnf
    simp only[Int.toNat_natCast,decide_eq_false_iff_not] at h6;refine⟨i+1,⟨by omega,by omega,by rw[he,if_neg h5,if_neg h6]⟩,by omega,⟨⟨_,rfl,rfl⟩,trivial⟩,?_,rfl⟩;repeat' (first|exact trivial|exact⟨_,rfl,rfl⟩|constructor)
 ·have hi':a.length<=i\/b.length<=i:=by
   by_cases h:i<a.length
   ·simp[h] at h3; exact .inr (by omega)
   ·exact .inl (by omega)
  have hx:=FK hi' hi hj;rw[<- he] at hx;refine⟨fun h4=>?_,fun h4=>?_⟩
  ·conv=>whnf
   refine ak.int ?_;rw[hx,if_pos (by simpa using h4)]
  ·conv=>whnf
   have h5: ¬ a.length<b.length:=by simpa using h4
   refine⟨fun h6=>?_,fun h6=>?_⟩
   ·conv=>whnf
    refine ak.int ?_;rw[hx,if_neg h5,if_pos (by simpa using h6)]
   ·conv=>whnf
    refine ak.int ?_;rw[hx,if_neg h5,if_neg (by simpa using h6)]
theorem S.oW(a b:Elem)(ha:a.counts.length<2^40)(hb:b.counts.length<2^40):aj Tryz.prog 56 [.dat (.elem a),.dat (.elem b)] (.int (gU a b)):=by
 refine aj.of Bd.oW (by simp) rfl rfl ?_;refine⟨fun h1=>?_,fun h1=>?_⟩
 ·conv=>whnf
  exact ak.int (by simp only[decide_eq_true_eq] at h1; simp[gU,h1])
 ·conv=>whnf
  simp only[decide_eq_false_iff_not] at h1;refine⟨fun h2=>?_,fun h2=>?_⟩
  ·conv=>whnf
   exact ak.int (by simp only[decide_eq_true_eq] at h2; simp[gU,h1,h2])
  ·simp only[decide_eq_false_iff_not] at h2;refine ah.pure (S.y9 a.counts b.counts ha hb) rfl ?_;exact ak.int (by simp[gU,h1,h2])
theorem cmpL_eq: ∀ {a b:List Int},cmpL a b=0↔a=b:=by
 intro a;induction a with
 |nil=>intro b; cases b<;>simp[cmpL]
 |cons x a ih =>
  intro b;cases b with
  |nil=>simp[cmpL]
  |cons y b =>
   simp only[cmpL];split
   ·simp; omega
   ·split
    ·simp; omega
    ·rw[ih]; simp; intro _; omega
theorem jI{a b:Elem}:gU a b=0↔a=b:=by
 obtain⟨v,c⟩:=a; obtain⟨w,d⟩:=b;simp only[gU];split
 ·simp; omega
 ·split
  ·simp; omega
  ·rw[cmpL_eq]; simp; intro _; omega
theorem S.BJ(a b:List Elem)(f g:Bool)(ha:a.length<2^40)(hb:b.length<2^40)(sa:dX a)(sb:dX b):aj Tryz.prog 24 [.row 3 f (.elems a),.row 3 g (.elems b)] (.bool (decide (a=b))):=by
 refine aj.of Bd.BJ (by simp) rfl rfl ?_;refine⟨fun h1=>?_,fun h1=>?_⟩
 ·conv=>whnf
  refine ak.bool ?_;refine decide_eq_false ?_;simp at h1;rintro rfl; exact h1 rfl
 ·have hlen:a.length=b.length:=by simp at h1; omega
  refine aA.same [0,1] (fun i:Nat=>[(5,.int i)]) (fun i=>i<=a.length/\a.take i=b.take i) (fun i=>a.length-i) 0 rfl (by decide) rfl (fun _=>rfl) ⟨by omega,by simp⟩ ⟨⟨_,rfl,rfl⟩,trivial⟩ ?_;refine⟨rfl,?_⟩;rintro i ⟨hi,hall⟩;refine⟨fun h3=>?_,fun h3=>?_⟩
  ·have hi':i<a.length:=by simpa using h3
   repeat(refine VC.mk (by simp only[Rw.rng] at *; omega) ?_)
   refine ah.pure (S.oW _ _ (by simpa using sa.get i) (by simpa using sb.get i)) rfl ?_;refine⟨fun h4=>?_,fun h4=>?_⟩
   ·conv=>whnf
    refine ak.bool ?_;refine decide_eq_false ?_;rintro rfl;simp only[Int.toNat_natCast,bne_iff_ne,ne_eq] at h4;exact h4 (jI.2 rfl)
   ·conv=>whnf
    refine .mk (by simp only[okI] at *; omega) ?_;conv=>whnf
    simp only[Int.toNat_natCast,bne_eq_false_iff_eq] at h4;rw[jI] at h4;refine⟨i+1,⟨by omega,?_⟩,by omega,⟨⟨_,rfl,rfl⟩,trivial⟩,?_,rfl⟩
    ·rw[List.take_add_one,List.take_add_one,hall]
     congr 1
     have hb':i<b.length:=by omega
     simp only[List.getD_eq_getElem?_getD,List.getElem?_eq_getElem hi',List.getElem?_eq_getElem hb',Option.getD_some] at h4;simp[hi',hb',h4]
    ·repeat' (first|exact trivial|exact⟨_,rfl,rfl⟩|constructor)
  ·conv=>whnf
   refine ak.bool ?_;have hi':a.length<=i:=by simpa using h3
   rw[List.take_of_length_le hi',List.take_of_length_le (by omega)] at hall;symm; simpa using hall
def Bh(n:Int):Bool:=decide (0<=n)&&decide (n<=1048576)
theorem S.kY(l:List Int)(f:Bool)(hl:l.length<2^40):aj Tryz.prog 71 [.row 0 f (.ints l)] (.bool (l.all Bh)):=by
 refine aj.of Bd.kY (by simp) rfl rfl ?_;refine aA.same [5,6] (fun i:Nat=>[(7,.int i)]) (fun i=>i<=l.length/\(l.take i).all Bh=true) (fun i=>l.length-i) 0 rfl (by decide) rfl (fun _=>rfl) ⟨by omega,by simp⟩ ⟨⟨_,rfl,rfl⟩,trivial⟩ ?_;refine⟨rfl,?_⟩;rintro i ⟨hi,hall⟩;refine⟨fun h3=>?_,fun h3=>?_⟩
 ·have hi':i<l.length:=by simpa using h3
  repeat(refine VC.mk (by first|exact id|(intro h; rw[h]; rfl)|(simp only[Rw.rng] at *; omega)) ?_)
  refine⟨fun h4=>?_,fun h4=>?_⟩
  ·conv=>whnf
   refine ak.bool ?_;simp only[Int.toNat_natCast] at h4;have h5:Bh (l.getD i 0)=false:=by
    have key: ∀ x:Int,(decide (x<0)||decide (1048576<x))=true->Bh x=false:=by
     intro x h4;unfold Bh;by_cases h0:x<0
     ·simp; omega
     ·simp[h0] at h4; simp; omega
    exact key _ h4
   rw[Bool.eq_false_iff];intro h;rw[List.all_eq_true] at h;have:=h l[i] (List.getElem_mem hi');rw[show l.getD i 0=l[i] by simp[hi']] at h5;rw[this] at h5; cases h5
  ·conv=>whnf
   refine .mk (by simp only[okI] at *; omega) ?_;conv=>whnf
   simp only[Int.toNat_natCast] at h4;refine⟨i+1,⟨by omega,?_⟩,by omega,⟨⟨_,rfl,rfl⟩,trivial⟩,?_,rfl⟩
   ·have h5:Bh (l.getD i 0)=true:=by
     have key: ∀ x:Int,(decide (x<0)||decide (1048576<x))=false->Bh x=true:=by
      intro x h4;unfold Bh;by_cases h0:x<0
      ·simp[h0] at h4
      ·simp[h0] at h4; simp; omega
     exact key _ h4
    rw[List.take_add_one,List.all_append,hall];simpa [hi'] using h5
   ·repeat' (first|exact trivial|exact⟨_,rfl,rfl⟩|constructor)
 ·conv=>whnf
  refine ak.bool ?_;have hi':l.length<=i:=by simpa using h3
  rw[List.take_of_length_le hi'] at hall; exact hall
def dY(e:Elem):Int:=if 6<e.counts.length then 0 else if e.counts.all Bh=true then e.counts.sum else 0
theorem Hw: ∀ {l:List Int},l.all Bh=true->0<=l.sum/\l.sum<=l.length*1048576:=by
 intro l;induction l with
 |nil=>intro _; simp
 |cons x l ih =>
  intro h;simp only[List.all_cons,Bool.and_eq_true,Bh,decide_eq_true_eq] at h;have:=ih h.2;simp only[List.sum_cons,List.length_cons];omega
theorem QX{l:List Int}(h:l.all Bh=true)(i:Nat):(l.take i).all Bh=true:=by
 rw[List.all_eq_true] at h ⊢;exact fun x hx=>h x (List.mem_of_mem_take hx)
theorem aai{l:List Int}{i:Nat}(hi:i<l.length):(l.take (i+1)).sum=(l.take i).sum+l.getD i 0:=by
 rw[List.take_add_one,List.sum_append]; simp[hi]
theorem S.oQ(e:Elem)(hl:e.counts.length<2^40):aj Tryz.prog 59 [.dat (.elem e)] (.int (dY e)):=by
 refine aj.of Bd.oQ (by simp) rfl rfl ?_;repeat(refine VC.mk id ?_)
 refine ah.fV (fun _=>S.kY e.counts false hl) rfl ?_;repeat(refine VC.mk (by first|exact id|(intro h; rw[h]; rfl)) ?_)
 refine⟨fun h1=>?_,fun h1=>?_⟩
 ·conv=>whnf
  refine ak.int ?_;unfold dY;by_cases h:6<e.counts.length
  ·rw[if_pos h]
  ·rw[if_neg h,if_neg];have h': ¬ (6:Int)<e.counts.length:=by omega
   simp[h'] at h1;intro hh;rw[List.all_eq_true] at hh;obtain⟨x,hx,hx'⟩:=h1;exact absurd (hh x hx) (by simp[hx'])
 ·have h2: ¬ 6<e.counts.length/\e.counts.all Bh=true:=by
   by_cases h:(6:Int)<e.counts.length
   ·simp[h] at h1
   ·simp[h] at h1;exact⟨by omega,by rw[List.all_eq_true]; exact h1⟩
  refine aA.same [17,18] (fun i:Nat=>[(19,.int i),(3,.int (e.counts.take i).sum)]) (fun i=>i<=e.counts.length) (fun i=>e.counts.length-i) 0 rfl (by decide) rfl (fun _=>rfl) (by omega) ⟨⟨_,rfl,rfl⟩,⟨_,rfl,rfl⟩,trivial⟩ ?_;refine⟨rfl,?_⟩;rintro i hi;have hb:=Hw (QX h2.2 i);have hb':((e.counts.take i).length:Int)<=6:=by simp; omega
  refine⟨fun h3=>?_,fun h3=>?_⟩
  ·have hi':i<e.counts.length:=by simpa using h3
   have hs:=aai hi';have hc:=Hw (QX h2.2 (i+1));have hc':((e.counts.take (i+1)).length:Int)<=6:=by simp; omega
   repeat(refine VC.mk (by first|(simp only[okI,Int.toNat_natCast] at *; rw[<- hs]; omega)|(simp only[okI,Rw.rng] at *; omega)) ?_)
   refine⟨i+1,by omega,by omega,⟨⟨_,rfl,rfl⟩,⟨_,rfl,?_⟩,trivial⟩,?_,rfl⟩
   ·rw[hs]; simp[V.aH,tJ]
   ·repeat' (first|exact trivial|exact⟨_,rfl,rfl⟩|constructor)
  ·conv=>whnf
   refine ak.int ?_;have hi':e.counts.length<=i:=by simpa using h3
   rw[List.take_of_length_le hi'];simp[dY,h2.1,h2.2]
def yO(x y:Elem):Bool:=mM y x&&(gU y x !=0)
theorem S.lG(x y:Elem)(d:Bool)(hx:x.counts.length<2^40)(hy:y.counts.length<2^40):aj Tryz.prog 61 [.agg [.int x.value,.row 0 false (.ints x.counts),.bool d],.dat (.elem y)] (.bool (yO x y)):=by
 refine aj.of Bd.lG (by simp) rfl rfl ?_;refine ah.pure (S.vY y x hy hx) rfl ?_;repeat(refine VC.mk (by first|exact id|exact fun h=>⟨h,h⟩) ?_)
 refine ah.fV (fun _=>S.iZ y x hy hx) rfl ?_;repeat(refine VC.mk id ?_)
 refine ak.bool ?_;cases h:mM y x<;>simp[yO,h]
def acS(p:Elem->Bool)(l:List Elem):Int:=if l.any p=true then(l.findIdx p:Int) else -1
theorem MX{p:Elem->Bool}{l:List Elem}{i:Nat}(hi:i<l.length)(h0:(l.take i).any p=false)(h1:p (l.getD i default)=true):l.findIdx p=i:=by
 rw[List.findIdx_eq hi];refine⟨by simpa [hi] using h1,fun j hj=>?_⟩;rw[List.any_eq_false] at h0;have:=h0 l[j] (by rw[List.mem_take_iff_getElem]; exact⟨j,by omega,rfl⟩);simpa using this
theorem S.UL(l:List Elem)(x:Elem)(d f:Bool)(hl:l.length<2^40)(hs:dX l)(hx:x.counts.length<2^40) :
  aj Tryz.prog 97 [.row 3 f (.elems l),.fn (61+4096) [.int x.value,.row 0 false (.ints x.counts),.bool d]] (.int (acS (yO x) l)):=by
 refine aj.of Bd.eY (by simp) rfl rfl ?_;refine aA.same [0,1,6,7] (fun i:Nat=>[(8,.int i)]) (fun i=>i<=l.length/\(l.take i).any (yO x)=false) (fun i=>l.length-i) 0 rfl (by decide) rfl (fun _=>rfl) ⟨by omega,by simp⟩ ⟨⟨_,rfl,rfl⟩,trivial⟩ ?_;refine⟨rfl,?_⟩;rintro i ⟨hi,hall⟩;refine⟨fun h3=>?_,fun h3=>?_⟩
 ·have hi':i<l.length:=by simpa using h3
  refine .mk (by simp only[Rw.rng] at *; omega) ?_;refine ah.pure (S.lG x (l.getD i default) d hx (hs.get i)) rfl ?_;refine⟨fun h4=>?_,fun h4=>?_⟩
  ·conv=>whnf
   refine ak.int ?_;rw[acS,if_pos (ig hi' h4),MX hi' hall h4]
  ·conv=>whnf
   refine .mk (by simp only[okI] at *; omega) ?_;refine⟨i+1,⟨by omega,by rw[jS hi' hall]; exact h4⟩,by omega,⟨⟨_,rfl,rfl⟩,trivial⟩,?_,rfl⟩;repeat' (first|exact trivial|exact⟨_,rfl,rfl⟩|constructor)
 ·conv=>whnf
  refine ak.int ?_;have hi':l.length<=i:=by simpa using h3
  rw[List.take_of_length_le hi'] at hall;rw[acS,hall]; rfl
theorem S.MZ(l:List Elem)(x:Elem)(d f:Bool)(hl:l.length<2^40)(hs:dX l)(hx:x.counts.length<2^40) :
  aj Tryz.prog 62 [.row 3 f (.elems l),.fn (61+4096) [.int x.value,.row 0 false (.ints x.counts),.bool d]] (.bool (l.any (yO x))):=by
 refine aj.of Bd.dZ (by simp) rfl rfl ?_;refine ah.pure (S.UL l x d f hl hs hx) rfl ?_;refine ak.bool ?_;unfold acS;cases h:l.any (yO x)
 ·simp
 ·simp
theorem S.nT(a b:Elem)(ha:a.counts.length<2^40)(hb:b.counts.length<2^40):aj Tryz.prog 100 [.dat (.elem a),.dat (.elem b)] (.bool (decide (a=b))):=by
 refine aj.of Bd.nT (by simp) rfl rfl ?_;refine ah.pure (S.iZ a b ha hb) rfl ?_;refine ak.bool ?_;rw[Bool.eq_iff_iff]; simp only[decide_eq_true_eq,beq_iff_eq];exact jI.symm
theorem ak.elem{e:Elem}{n ty:Nat}{h:Hz}(q:h.get n=some (.row ty 0 (.ints e.counts) [])):ak (.dat (.elem e)) (.agg [.int e.value,.own n]) h:=⟨by
 show T.sub (fun _=>True) h.ay (gJ e) (.agg [.int e.value,.own n]);simp only[gJ,T.sub,T.dD,and_true];refine⟨trivial,trivial,trivial,?_,by decide,ty,?_⟩
 ·rw[fU]; intro t ht; obtain⟨x,_,rfl⟩:=List.mem_map.1 ht; rfl
 ·have:=aK q; simpa [OV.au,Rw.aT,V.aT] using this⟩
theorem S.BK(e:Elem)(he:e.counts.length<2^40):aj Tryz.prog 141 [.dat (.elem e)] (.dat (.elem e)):=by
 refine aj.of Bd.BK (by simp) rfl rfl ?_;refine .mk (by simp only[jl,jF,Rw.len]; omega) ?_;exact ak.elem (ty:=3) rfl
theorem S.kT(e:Elem)(d:Bool)(he:e.counts.length<2^40):aj Tryz.prog 63 [.agg [.int e.value,.row 0 false (.ints e.counts),.bool d]] (.dat (.elem e)):=by
 refine aj.of Bd.kT (by simp) rfl rfl ?_;refine .mk (by simp only[jl,jF,Rw.len]; omega) ?_;exact ak.elem (ty:=3) rfl
theorem ah.lend{P:Program}{dr:Bool}{f:FuncId}{args args':List V}{res:V}{h:Hz}{n:Nat}{K:V->Hz->Prop}{KW:Nat->V->Hz->Prop}(S:aj P f args' res)(hs:T.dD (fun _=>True) h.ay (V.aT args') (V.aT args))(hh:res.aH.hard=true)(hr:res.free=true)(hK:K res h):ah P dr none f args h n K KW :=
 ⟨.inl (BL.lend S hs hh (fun _ e=>by cases e) ⟨res,h,rfl,rfl,fun _=>⟨rfl,V.oZ res hr⟩,hK⟩)⟩
theorem EG(l:List Elem):T.bW (l.map gJ)=true:=by
 rw[fU]; intro t ht; obtain⟨x,_,rfl⟩:=List.mem_map.1 ht; rfl
theorem dU.of_eq{a b:List T}(h:a=b):dU a b:=by subst h; exact .refl _
theorem ah.aeH{P:Program}{dr b:Bool}{f:FuncId}{args args':List V}{res:V}{h:Hz}{n:Nat}{K:V->Hz->Prop}{KW:Nat->V->Hz->Prop}(S:b=true->aj P f args' res)(hs:b=true->T.dD (fun _=>True) h.ay (V.aT args') (V.aT args))(hh:res.aH.hard=true)(hr:res.free=true)(hK:K res h):ah P dr (some b) f args h n K KW :=
 ⟨.inl (.inl ⟨res,fun e=>BL.lend (S e) (hs e) hh (fun _ e=>by cases e) ⟨rfl,rfl⟩,hr,hK⟩)⟩
abbrev bI(l:List Elem):OV:=.row 35 3 (.elems l) []
theorem KA{h:Hz}{j:Nat}{l:List Elem}{Z:Nat->Prop}(hz:Z j)(q:h.get j=some (bI l)):T.sub Z h.ay (V.row 3 false (.elems l)).aH (V.own j).aH:=by
 show T.sub Z h.ay (.sl 3 false (l.map gJ)) (.own j);simp only[T.sub];refine⟨trivial,hz,EG l,by decide,35,?_⟩;have:=aK q; simpa [OV.au,Rw.aT,V.aT] using this
theorem ak.ZW{h:Hz}{j:Nat}{l:List Elem}(q:h.get j=some (bI l)):ak (.row 3 false (.elems l)) (.own j) h:=⟨KA trivial q⟩
def vw(l:List Elem)(e:Elem):Nat->Nat
 |0=>0
 |i+1=>if 0<gU (l.getD i default) e then vw l e i else i+1
def EH(l:List Elem)(e:Elem):Bool:=decide (0<vw l e l.length)&&decide (gU (l.getD (vw l e l.length-1) default) e=0)
def wY(l:List Elem)(e:Elem):List Elem:=if EH l e=true then l else l.take (vw l e l.length)++e::l.drop (vw l e l.length)
theorem Wv{l:List Elem}{e:Elem}: ∀ i,vw l e i<=i:=by
 intro i;induction i with
 |zero=>exact Nat.le_refl _
 |succ i ih=>simp only[vw]; split<;>omega
theorem aaj(i:Nat):((i:Int)-1).toNat=i-1:=by omega
theorem gtP{l:List Elem}{e:Elem}{i:Nat}:(decide ((0:Int)<i)&&decide (0<gU (l.getD ((i:Int)-1).toNat default) e))=true↔0<i/\0<gU (l.getD (i-1) default) e:=by
 rw[aaj,Bool.and_eq_true,decide_eq_true_eq,decide_eq_true_eq];exact⟨fun h=>⟨by omega,h.2⟩,fun h=>⟨by omega,h.2⟩⟩
theorem eqP{l:List Elem}{e:Elem}{i:Nat}:(decide ((0:Int)<i)&&(gU (l.getD ((i:Int)-1).toNat default) e==0))=(decide (0<i)&&decide (gU (l.getD (i-1) default) e=0)):=by
 rw[aaj];have h1:decide ((0:Int)<i)=decide (0<i):=decide_eq_decide.2 (by omega);rw[h1]; rfl
abbrev h1(l:List Elem):Hz:=[(0,some (bI l))]
def Uu(l:List Elem)(k:Nat):List Elem:=l.take k++l.getD k default::l.drop k
theorem Wx(l:List Elem)(k:Nat):(Uu l k).length=l.length+1:=by simp[Uu]; omega
theorem aak{l:List Elem}{k:Nat}(h:k<=l.length)(x:Elem):(Uu l k).set k x=l.take k++x::l.drop k:=by
 unfold Uu;rw[List.set_append_right _ _ (by simp; omega)];simp[Nat.min_eq_left h]
theorem acT{l:List Elem}{k:Nat}(h:k<l.length):(Uu l (k+1)).getD k default=l.getD k default:=by
 unfold Uu;rw[List.getD_eq_getElem?_getD,List.getElem?_append_left (by simp; omega),List.getElem?_take_of_lt (by omega),List.getD_eq_getElem?_getD]
theorem aal{l:List Elem}{k:Nat}(h:k<l.length):(Uu l (k+1)).set (k+1) ((Uu l (k+1)).getD k default)=Uu l k:=by
 rw[aak (by omega),acT h];unfold Uu;rw[List.take_add_one,List.append_assoc,bY default h]
 congr 1
 simp[h]
theorem zero_sub(l:List Elem):dU (bI (Uu l l.length)).au.l (OV.row 35 3 (.elems l) [V.agg (ZI [T.int 0,T.nil])]).au.l:=by
 intro Z h;have e:(bI (Uu l l.length)).au.l=l.map gJ++[gJ default]:=by
  simp[OV.au,Rw.aT,V.aT,Uu]
 rw[e];refine yA (dH _) ?_;refine⟨?_,trivial⟩;show T.sub Z h (.agg [.int 0,.sl 0 false []]) (.agg [.int 0,.sl 0 true []]);simp[T.sub,T.dD]
theorem UJ{l:List Elem}{n:Nat}(hn:0<n):Hz.get n (h1 l)=none:=by
 show(bif Nat.beq 0 n then some (bI l) else none)=none;rw[agv,if_neg (by omega)]
theorem S.wZ(l:List Elem)(e:Elem)(n:Nat)(hn:0<n)(hl:l.length<2^30)(hs:dX l)(he:e.counts.length<2^30) :
  aO Tryz.prog 124 (V.aT [.own 0,.dat (.elem e)]) (h1 l).ay n (fun t hp=>(EH l e=true/\t= .own 0/\hp=(h1 l).ay)\/(EH l e=false/\t= .own n/\hp=Hz.ay [(n,some (bI (wY l e)))])):=by
 refine oU.of (nx:=1) Bd.wZ (by simp) ?_ rfl rfl ?_
 ·cases h:EH l e
  ·exact⟨_,_,.inr ⟨rfl,rfl,rfl⟩⟩
  ·exact⟨_,_,.inl ⟨rfl,rfl,rfl⟩⟩
 refine aA.same [0,3] (fun i:Nat=>[(5,.int i)]) (fun i=>i<=l.length/\vw l e l.length=vw l e i) (fun i=>i) l.length rfl (by decide) rfl (fun _=>rfl) ⟨by omega,rfl⟩ ⟨⟨_,rfl,rfl⟩,trivial⟩ ?_;refine⟨rfl,?_⟩;rintro i ⟨hi,hpos⟩;repeat(refine VC.mk (by first|exact fun h=>⟨h,h⟩|(intro h; (repeat' apply And.intro)<;>first|exact h|omega|(simp only[Rw.qH]; omega)|(simp only[Rw.rng]; omega))|(simp only[Rw.rng] at *; first|omega|(simp_all; omega))) ?_)
 refine ah.fV (fun _=>S.oW _ _ (by first|exact hs.get _|(have:=hs.get ((i:Int)-1).toNat; omega)) (by omega)) rfl ?_;repeat(refine VC.mk id ?_)
 refine⟨fun h3=>?_,fun h3=>?_⟩
 ·rw[gtP] at h3;obtain⟨h4,h5⟩:=h3;refine .mk (by simp only[okI] at *; first|omega|(simp_all; omega)) ?_;refine⟨i-1,⟨by omega,?_⟩,by omega,⟨⟨_,rfl,?_⟩,trivial⟩,?_,rfl⟩
  ·rw[hpos];obtain⟨k,rfl⟩: ∃ k,i=k+1:=⟨i-1,by omega⟩
   simp only[vw,Nat.add_sub_cancel] at h5 ⊢;rw[if_pos h5]
  ·show T.int ((i-1:Nat):Int)=T.int ((i:Int)-1)
   congr 2; omega
  ·repeat' (first|exact trivial|exact⟨_,rfl,rfl⟩|constructor)
 ·rw[Bool.eq_false_iff,ne_eq,gtP] at h3;have hp:vw l e l.length=i:=by
   rw[hpos];cases i with
   |zero=>rfl
   |succ k=>simp only[vw]; rw[if_neg (fun h=>h3 ⟨by omega,by simpa using h⟩)]
  clear hpos h3;subst hp;repeat(refine VC.mk (by first|exact fun h=>⟨h,h⟩|(intro h; (repeat' apply And.intro)<;>first|exact h|omega|(simp only[Rw.qH]; omega)|(simp only[Rw.rng]; omega))|(simp only[Rw.rng] at *; first|omega|(simp_all; omega))) ?_)
  refine ah.fV (fun _=>S.oW _ _ (hs.get _) (by omega)) rfl ?_;repeat(refine VC.mk id ?_)
  rw[eqP];refine⟨fun h3=>?_,fun h3=>?_⟩
  ·conv=>whnf
   refine iP.one (c:=0) (j:=0) (o:=bI l) (t:=.own 0) rfl rfl rfl (fun _=>rfl) (.inl rfl) rfl (.eq rfl) (.inl ⟨h3,rfl,rfl⟩)
  ·conv=>whnf
   repeat(refine VC.mk (by first|(show(l.length+(0+1))*32<=140737488355328/\l.length+(0+1)<=1152921504606846976; omega)|(show okI ((l.length:Int)+((0+1:Nat):Int)-1); simp only[okI]; omega)) ?_)
   refine aA.objs 3 [3,5] (fun k:Nat=>[(0,.own 2),(6,.int k)]) (fun k=>[(1,.box 35 3 (.dat (.elem e))),(2,bI (Uu l k))]) (fun k=>vw l e l.length<=k/\k<=l.length) (fun k=>k) l.length [1,33] rfl (by decide) (fun _=>rfl) ⟨hi,Nat.le_refl _⟩ ?_ ?_ ?_
   ·refine⟨⟨_,rfl,.eq rfl⟩,⟨_,rfl,.eq ?_⟩,trivial⟩;show T.int (l.length:Int)=T.int ((l.length:Int)+((0+1:Nat):Int)-1)
    congr 2; omega
   ·refine⟨dQ rfl rfl,⟨rfl,nofun,rfl,rfl,rfl,_,rfl,rfl,rfl,zero_sub l⟩,trivial⟩
   ·conv=>whnf
    refine⟨(sR rfl),rfl,?_⟩;rintro k ⟨hk1,hk2⟩;refine⟨fun h4=>?_,fun h4=>?_⟩
    ·have h5:vw l e l.length<k:=by simpa using h4
     obtain⟨k,rfl⟩: ∃ j,k=j+1:=⟨k-1,by omega⟩
     have e1:((((k+1:Nat):Int))-1).toNat=k:=by omega
     have e2:(((k+1:Nat):Int)).toNat=k+1:=rfl;repeat(refine VC.mk (by simp only[Rw.rng,Wx,okI]; omega) ?_)
     refine⟨k,[1,2],⟨by omega,by omega⟩,by omega,⟨⟨_,rfl,.eq rfl⟩,⟨_,rfl,.eq ?_⟩,trivial⟩,(sR rfl),dQ rfl rfl,⟨rfl,nofun,rfl,rfl,rfl,_,rfl,rfl,rfl,?_⟩,trivial⟩
     ·show T.int (k:Int)=T.int (((k+1:Nat):Int)-1)
      congr 2; omega
     ·rw[e1,e2,aal (by omega)]; exact .refl _
    ·have hk:k=vw l e l.length:=by
      have: ¬ vw l e l.length<k:=by simpa using h4
      omega
     clear h4;refine ah.pure (S.BK e (by omega)) rfl ?_;repeat(refine VC.mk (by simp only[Rw.rng,Wx]; omega) ?_)
     refine iP.one (c:=n) (j:=2) (o:=bI ((Uu l k).set (vw l e l.length:Int).toNat e)) (t:=.own n) rfl rfl rfl ?_ (.inr rfl) rfl (.eq rfl) (.inr ⟨h3,rfl,?_⟩)
     ·rw[UJ hn]; intro h; cases h
     ·have:(Uu l k).set (vw l e l.length:Int).toNat e=wY l e:=by
       rw[wY,if_neg (by rw[show EH l e=false from h3]; simp)];rw[hk]; exact aak (by omega) e
      rw[this]
def QY(l:List Elem):List Elem:=l.foldl wY []
def iM(out:List Elem)(x:Elem):List Elem:=if(out.any fun b=>mM b x)=true then out else out++[x]
def HY(l:List Elem):List Elem:=(QY l).foldl iM []
theorem aam{l:List Elem}{e:Elem}:(wY l e).length<=l.length+1:=by
 unfold wY; split
 ·omega
 ·simp; have:=Wv (l:=l) (e:=e) l.length; omega
theorem aan{l:List Elem}{e x:Elem}(h:x∈wY l e):x=e\/x∈l:=by
 unfold wY at h; split at h
 ·exact .inr h
 ·simp only[List.mem_append,List.mem_cons] at h;rcases h with h|h|h
  ·exact .inr (List.mem_of_mem_take h)
  ·exact .inl h
  ·exact .inr (List.mem_of_mem_drop h)
theorem wW{α β:Type}(f:β->α->β)(b:β){l:List α}{i:Nat}(d:α)(h:i<l.length):(l.take (i+1)).foldl f b=f ((l.take i).foldl f b) (l.getD i d):=by
 rw[List.take_add_one,List.foldl_append]; simp[h]
theorem aao: ∀ (l acc:List Elem),(l.foldl wY acc).length<=acc.length+l.length:=by
 intro l;induction l with
 |nil=>intro acc; simp
 |cons x l ih=>intro acc; simp only[List.foldl_cons,List.length_cons]; have:=ih (wY acc x); have:=aam (l:=acc) (e:=x); omega
theorem QZ: ∀ (l acc:List Elem) (x:Elem),x∈l.foldl wY acc->x∈acc\/x∈l:=by
 intro l;induction l with
 |nil=>intro acc x h; exact .inl h
 |cons y l ih =>
  intro acc x h;simp only[List.foldl_cons] at h;rcases ih _ _ h with h|h
  ·rcases aan h with h|h
   ·exact .inr (by simp[h])
   ·exact .inl h
  ·exact .inr (by simp[h])
theorem X0{l:List Elem}{e:Elem}:(iM l e).length<=l.length+1:=by
 unfold iM; split
 ·omega
 ·simp
theorem QW: ∀ (l acc:List Elem),(l.foldl iM acc).length<=acc.length+l.length:=by
 intro l;induction l with
 |nil=>intro acc; simp
 |cons x l ih=>intro acc; simp only[List.foldl_cons,List.length_cons]; have:=ih (iM acc x); have:=X0 (l:=acc) (e:=x); omega
theorem aap: ∀ (l acc:List Elem) (x:Elem),x∈l.foldl iM acc->x∈acc\/x∈l:=by
 intro l;induction l with
 |nil=>intro acc x h; exact .inl h
 |cons y l ih =>
  intro acc x h;simp only[List.foldl_cons] at h;rcases ih _ _ h with h|h
  ·unfold iM at h; split at h
   ·exact .inl h
   ·simp only[List.mem_append,List.mem_singleton] at h;rcases h with h|h
    ·exact .inl h
    ·exact .inr (by simp[h])
  ·exact .inr (by simp[h])
theorem X3{l:List Elem}(h:dX l)(i:Nat):dX ((l.take i).foldl wY []):=fun x hx=>by
 rcases QZ _ _ _ hx with h'|h'
 ·cases h'
 ·exact h x (List.mem_of_mem_take h')
theorem EF{l:List Elem}(h:dX l)(i:Nat):dX ((l.take i).foldl iM []):=fun x hx=>by
 rcases aap _ _ _ hx with h'|h'
 ·cases h'
 ·exact h x (List.mem_of_mem_take h')
def BI(l:List Elem):Prop:= ∀ e∈l,e.counts.length<2^30
theorem BI.e{l:List Elem}(h:BI l):dX l:=fun e he=>by have:=h e he; omega
theorem BI.get{l:List Elem}(h:BI l)(i:Nat):(l.getD i default).counts.length<2^30:=by
 rw[List.getD_eq_getElem?_getD];cases e:l[i]? with
 |none=>show([]:List Int).length<2^30; decide
 |some x=>exact h x (List.mem_of_getElem? e)
theorem S.sF(l:List Elem)(f:Bool)(hl:l.length<2^29)(hs:BI l):aj Tryz.prog 90 [.row 3 f (.elems l)] (.row 3 false (.elems (HY l))):=by
 refine aj.of Bd.sF (by simp) rfl rfl ?_;refine aA.nil 3 35 3 (by rfl) rfl rfl rfl ?_;refine aA.objs 1 [0,4] (fun i:Nat=>[(5,.int i),(3,.own 0)]) (fun i=>[(0,bI ((l.take i).foldl wY []))]) (fun i=>i<=l.length) (fun i=>l.length-i) 0 [4] rfl (by decide) (fun _=>rfl) (Nat.zero_le _) ?_ ?_ ?_
 ·exact(sR rfl)
 ·exact⟨dQ rfl rfl,trivial⟩
 refine⟨(sR rfl),rfl,?_⟩;rintro i hi;have hal:((l.take i).foldl wY []).length<=i:=by
  have:=aao (l.take i) [];simp at this; omega
 refine⟨fun h3=>?_,fun h3=>?_⟩
 ·have hi':i<l.length:=by simpa using h3
  refine .mk (by simp only[Rw.rng] at *; omega) ?_;refine ah.heap (S.wZ _ _ _ (by decide) (by omega) (X3 hs.e i) (hs.get i)) ?_;have hstep:=wW wY [] (l:=l) default hi';rintro t hp (⟨hf,rfl,rfl⟩|⟨hf,rfl,rfl⟩)
  ·refine⟨.own 0,h1 _,rfl,rfl,?_⟩;refine .mk (by simp only[okI] at *; omega) ?_;refine⟨i+1,[0],by omega,by omega,(sR rfl),(sR rfl),⟨rfl,nofun,rfl,rfl,rfl,_,rfl,rfl,rfl,?_⟩,trivial⟩;rw[Int.toNat_natCast] at hf;rw[hstep,wY,if_pos hf]; exact .refl _
  ·refine⟨.own _,[(_,some (bI _))],rfl,rfl,?_⟩;refine .mk (by simp only[okI] at *; omega) ?_;refine⟨i+1,[10],by omega,by omega,(sR rfl),(sR rfl),⟨rfl,nofun,rfl,rfl,rfl,_,rfl,rfl,rfl,?_⟩,trivial⟩;rw[hstep]; exact .refl _
 ·have hi':l.length<=i:=by simpa using h3
  have hall:(l.take i).foldl wY []=QY l:=by rw[List.take_of_length_le hi']; rfl
  have hsl:BI (QY l):=fun x hx=>by
   rcases QZ _ _ _ hx with h'|h'
   ·cases h'
   ·exact hs x h'
  rw[hall];rw[hall] at hal;generalize hA:QY l=A at hal hsl ⊢;have hrm:HY l=A.foldl iM []:=by rw[HY,hA]
  rw[hrm];clear hall hA hrm h3;refine aA.nil 4 35 3 (by rfl) rfl rfl rfl ?_;refine aA.objs 2 [] (fun i:Nat=>[(6,.int i),(3,.own 0),(4,.own 1)]) (fun i=>[(0,bI A),(1,bI ((A.take i).foldl iM []))]) (fun i=>i<=A.length) (fun i=>A.length-i) 0 [0,6] rfl (by decide) (fun _=>rfl) (Nat.zero_le _) ?_ ?_ ?_
  ·exact(sR rfl)
  ·exact⟨dQ rfl rfl,dQ rfl rfl,trivial⟩
  refine⟨trivial,rfl,?_⟩;rintro j hj;have hkl:((A.take j).foldl iM []).length<=j:=by
   have:=QW (A.take j) [];simp at this; omega
  refine⟨fun h3=>?_,fun h3=>?_⟩
  ·have hj':j<A.length:=by simpa using h3
   have hstep:=wW iM [] (l:=A) default hj';repeat(refine VC.mk (by simp only[Rw.rng] at *; omega) ?_)
   refine ah.lend (S.mO _ (A.getD j default) false (by omega) (EF hsl.e j) (hsl.e.get j)) ⟨KA trivial rfl,aF _,trivial⟩ rfl rfl ?_;refine⟨fun h4=>?_,fun h4=>?_⟩
   ·conv=>whnf
    repeat(refine VC.mk (by first|(show(((A.take j).foldl iM []).length+(0+1))*32<=140737488355328/\((A.take j).foldl iM []).length+(0+1)<=1152921504606846976; omega)|(simp only[okI,Rw.rng] at *; omega)) ?_)
    refine⟨j+1,[0,19],by omega,by omega,(sR rfl),trivial,dQ rfl rfl,⟨rfl,nofun,rfl,rfl,rfl,_,rfl,rfl,rfl,dU.of_eq ?_⟩,trivial⟩;rw[hstep,iM,if_neg (by simpa using h4)];show List.map gJ _++[]=List.map gJ _++[gJ _];simp
   ·conv=>whnf
    refine .mk (by simp only[okI] at *; omega) ?_;refine⟨j+1,[0,1],by omega,by omega,(sR rfl),trivial,dQ rfl rfl,⟨rfl,nofun,rfl,rfl,rfl,_,rfl,rfl,rfl,dU.of_eq ?_⟩,trivial⟩;have h5:((A.take j).foldl iM []).any (fun b=>mM b (A.getD j default))=true:=by simpa using h4
    rw[hstep,iM,if_pos h5]
  ·conv=>whnf
   have hj':A.length<=j:=by simpa using h3
   have hA:A.take j=A:=List.take_of_length_le hj';rw[hA];exact ak.ZW rfl
def uG(l:List Elem):Nat->List Elem
 |0=>[]
 |n+1=>if n=0\/l.getD n default≠l.getD (n-1) default then uG l n++[l.getD n default] else uG l n
theorem JA(l:List Elem): ∀ n,(uG l n).length<=n:=by
 intro n;induction n with
 |zero=>exact Nat.le_refl _
 |succ n ih =>
  simp only[uG]; split
  ·simp; omega
  ·omega
theorem acU{l:List Elem}{x:Elem}: ∀ {n},x∈uG l n->n<=l.length->x∈l:=by
 intro n;induction n with
 |zero=>intro h; cases h
 |succ n ih =>
  intro h hn;simp only[uG] at h;split at h
  ·rcases List.mem_append.1 h with h|h
   ·exact ih h (by omega)
   ·rw[List.mem_singleton] at h; subst h;simp[show n<l.length by omega]
  ·exact ih h (by omega)
abbrev zeroV:V:=.agg [.int 0,.row 0 true .nil]
def mid(l:List Elem)(j:Nat):List Elem:=uG l j++l.drop (uG l j).length
theorem acV{l:List Elem}{j:Nat}(h:j<=l.length):(mid l j).length=l.length:=by
 have:=JA l j;simp[mid]; omega
theorem Wy{l:List Elem}{j i:Nat}(h:(uG l j).length<=i):(mid l j).getD i default=l.getD i default:=by
 unfold mid;rw[List.getD_eq_getElem?_getD,List.getElem?_append_right h,List.getElem?_drop,List.getD_eq_getElem?_getD]
 congr 2; omega
theorem acW{l:List Elem}{j:Nat}(hj:j<l.length)(h:j=0\/l.getD j default≠l.getD (j-1) default):(mid l j).set (uG l j).length (l.getD j default)=mid l (j+1):=by
 have hl:=JA l j;have e:uG l (j+1)=uG l j++[l.getD j default]:=by simp only[uG]; rw[if_pos h]
 unfold mid;rw[e,List.set_append_right _ _ (Nat.le_refl _),Nat.sub_self,bY default (show(uG l j).length<l.length by omega)];simp
theorem Q5{l:List Elem}{j:Nat}(h0:j≠0)(h:l.getD j default=l.getD (j-1) default):uG l (j+1)=uG l j:=by
 simp only[uG]; rw[if_neg]; intro q; rcases q with q|q
 ·exact h0 q
 ·exact q h
theorem KE{l:List Elem}{k:Nat}(hk:k<=l.length)(h: ∀ i,0<i->i<k->l.getD i default≠l.getD (i-1) default):uG l k=l.take k:=by
 induction k with
 |zero=>rfl
 |succ k ih =>
  simp only[uG];rw[if_pos,ih (by omega) fun i h1 h2=>h i h1 (by omega),List.take_add_one]
  ·simp[show k<l.length by omega]
  ·by_cases h0:k=0
   ·exact .inl h0
   ·exact .inr (h k (by omega) (by omega))
theorem KC(l:List Elem)(m nx:Nat):(OV.row 35 3 (.elems l) (List.replicate m zeroV)).good nx=true:=by
 have h1:FN 3 (List.replicate m zeroV)=true:=by
  induction m with
  |zero=>rfl
  |succ m ih=>simp only[List.replicate_succ,FN,ih,Bool.and_true]; rfl
 have h2:T.NS nx (V.aT (List.replicate m zeroV))=true:=by
  clear h1;induction m with
  |zero=>rfl
  |succ m ih=>simp only[List.replicate_succ,V.aT,T.NS,ih,Bool.and_true]; rfl
 simp only[OV.good,h1,h2]; rfl
theorem Fz(l:List Elem)(m:Nat):(OV.row 35 3 (.elems l) (List.replicate m zeroV)).Dl=true:=by
 simp only[OV.Dl];induction m with
 |zero=>rfl
 |succ m ih=>simp only[List.replicate_succ,V.bW,ih,Bool.and_true]; rfl
def uH(l:List Elem):List Elem:=uG l l.length
theorem S.Q7(l:List Elem)(n:Nat)(hl:l.length<2^30)(hs:dX l) :
  aO Tryz.prog 99 (V.aT [.own 0,.fn 100 []]) (h1 l).ay n
   (fun t hp=>(uH l=l/\t= .own 0/\hp=(h1 l).ay)\/(∃ m,t= .qw 0 0 (uH l).length/\hp=Hz.ay [(0,some (.row 35 3 (.elems (uH l)) (List.replicate m zeroV)))])):=by
 refine oU.of (nx:=1) Bd.eG (by simp) ⟨_,_,.inr ⟨0,rfl,rfl⟩⟩ rfl rfl ?_;refine⟨fun h1=>?_,fun h1=>?_⟩
 ·conv=>whnf
  have hc:uH l=l:=by
   have h2:l.length<2:=by simp at h1; omega
   rw[uH,KE (Nat.le_refl _) (fun i h3 h4=>by omega),List.take_length]
  exact iP.one (c:=0) (j:=0) (o:=bI l) (t:=.own 0) rfl rfl rfl (fun _=>rfl) (.inl rfl) rfl (.eq rfl) (.inl ⟨hc,rfl,rfl⟩)
 ·have h2:2<=l.length:=by simp at h1; omega
  refine aA.same [0,1] (fun i:Nat=>[(5,.int i)]) (fun i=>1<=i/\i<=l.length/\ ∀ k,0<k->k<i->l.getD k default≠l.getD (k-1) default) (fun i=>l.length-i) 1 rfl (by decide) rfl (fun _=>rfl) ⟨by omega,by omega,fun k h3 h4=>by omega⟩ ⟨⟨_,rfl,rfl⟩,trivial⟩ ?_;refine⟨rfl,?_⟩;rintro k ⟨hk0,hk,hne⟩;have e1:((k:Int)-1).toNat=k-1:=by omega
  refine⟨fun h3=>?_,fun h3=>?_⟩
  ·have hk':k<l.length:=by simpa using h3
   repeat(refine VC.mk (by simp only[okI,Rw.rng]; omega) ?_)
   refine ah.pure (S.nT _ _ (hs.get _) (hs.get _)) rfl ?_;refine⟨fun h4=>?_,fun h4=>?_⟩
   ·have heq:l.getD k default=l.getD (k-1) default:=by
     rw[e1] at h4; simpa using h4
    have hdk:uG l k=l.take k:=KE hk hne;have ae5:uG l (k+1)=l.take k:=by rw[Q5 (by omega) heq,hdk]
    refine .mk (by simp only[Rw.qH]; omega) ?_;refine aA.objs 1 [0,1,6] (fun j:Nat=>[(7,.int j),(5,.int (uG l (k+j)).length)]) (fun j=>[(0,bI (mid l (k+j)))]) (fun j=>1<=j/\k+j<=l.length/\(uG l (k+j)).length+1<=k+j) (fun j=>l.length-j) 1 [0] rfl (by decide) (fun _=>rfl) ⟨by omega,by omega,?_⟩ ?_ ?_ ?_
    ·rw[ae5]; simp; omega
    ·refine⟨⟨_,rfl,.eq rfl⟩,⟨_,rfl,.eq ?_⟩,trivial⟩;rw[ae5];show T.int (((l.take k).length:Nat):Int)=T.int (k:Int);simp[Nat.min_eq_left hk]
    ·refine⟨⟨rfl,(fun _=>rfl),rfl,rfl,rfl,_,rfl,rfl,rfl,dU.of_eq ?_⟩,trivial⟩
     have:mid l (k+1)=l:=by unfold mid; rw[ae5]; simp[Nat.min_eq_left hk]
     rw[this]
    refine⟨(sR rfl),rfl,?_⟩;rintro j ⟨hj0,hj,hdl⟩;have hml:=acV hj;have e2:((j:Int)-1).toNat=j-1:=by omega
    have hsm:dX (mid l (k+j)):=fun x hx=>by
     unfold mid at hx;rcases List.mem_append.1 hx with hx|hx
     ·exact hs x (acU hx hj)
     ·exact hs x (List.mem_of_mem_drop hx)
    refine⟨fun h5=>?_,fun h5=>?_⟩
    ·have hj':k+j<l.length:=by
      have h6:j<l.length-k:=by
       have:(j:Int)<(((Rw.elems l).len-k:Nat):Int):=by simpa using h5
       have e3:(Rw.elems l).len=l.length:=rfl;rw[e3] at this;omega
      omega
     have g1:=Wy (l:=l) (j:=k+j) (i:=k+j) (by omega);have g2:=Wy (l:=l) (j:=k+j) (i:=k+(j-1)) (by omega);repeat(refine VC.mk (by first|(simp only[okI]; omega)|(show _/\_<(((l.length-k:Nat)):Int); omega)|(simp only[Rw.rng,hml,Int.toNat_natCast,e2]; omega)|(show(0:Int)<=_/\_<((mid l (k+j)).length:Int); rw[hml]; simp only[Int.toNat_natCast,e2]; omega)) ?_)
     refine ah.pure (S.nT _ _ (hsm.get _) (hsm.get _)) rfl ?_;simp only[Int.toNat_natCast,e2,g1,g2];conv=>whnf
     have e4:k+(j-1)=k+j-1:=by omega
     refine⟨fun h6=>?_,fun h6=>?_⟩
     ·have hne':l.getD (k+j) default≠l.getD (k+j-1) default:=by
       rw[e4] at h6; simpa using h6
      have hst:=acW hj' (.inr hne');have hd1:uG l (k+j+1)=uG l (k+j)++[l.getD (k+j) default]:=by simp only[uG]; rw[if_pos (.inr hne')]
      repeat(refine VC.mk (by first|(simp only[okI]; omega)|(show _/\_<(((l.length-k:Nat)):Int); omega)|(simp only[Rw.rng,hml,Int.toNat_natCast]; omega)|(show(0:Int)<=_/\_<((mid l (k+j)).length:Int); rw[hml]; simp only[Int.toNat_natCast]; omega)) ?_)
      refine⟨j+1,[0],⟨by omega,by omega,?_⟩,by omega,⟨⟨_,rfl,.eq rfl⟩,⟨_,rfl,.eq ?_⟩,trivial⟩,(sR rfl),⟨rfl,(fun _=>rfl),rfl,rfl,rfl,_,rfl,rfl,rfl,dU.of_eq ?_⟩,trivial⟩
      ·show(uG l (k+j+1)).length+1<=k+(j+1);rw[hd1]; simp; omega
      ·show T.int (((uG l (k+j+1)).length:Nat):Int)=T.int (((uG l (k+j)).length:Int)+1);rw[hd1]; simp
      ·show(bI (mid l (k+j+1))).au.l=(OV.row 35 3 (.elems ((mid l (k+j)).set (((uG l (k+j)).length:Int)).toNat ((mid l (k+j)).getD ((k:Int).toNat+(j:Int).toNat) default))) []).au.l;simp only[Int.toNat_natCast,g1,hst]
     ·have heq':l.getD (k+j) default=l.getD (k+j-1) default:=by
       rw[e4] at h6; simpa using h6
      have hd1:uG l (k+j+1)=uG l (k+j):=Q5 (by omega) heq';refine .mk (by simp only[okI] at *; omega) ?_;refine⟨j+1,[0],⟨by omega,by omega,?_⟩,by omega,⟨⟨_,rfl,.eq rfl⟩,⟨_,rfl,.eq ?_⟩,trivial⟩,(sR rfl),⟨rfl,(fun _=>rfl),rfl,rfl,rfl,_,rfl,rfl,rfl,dU.of_eq ?_⟩,trivial⟩
      ·show(uG l (k+j+1)).length+1<=k+(j+1);rw[hd1]; omega
      ·show T.int (((uG l (k+j+1)).length:Nat):Int)=T.int ((uG l (k+j)).length:Int);rw[hd1]
      ·show(bI (mid l (k+j+1))).au.l=(bI (mid l (k+j))).au.l;unfold mid; rw[hd1]
    ·have hj':k+j=l.length:=by
      have h6: ¬ (j:Int)<(((Rw.elems l).len-k:Nat):Int):=by simpa using h5
      have e3:(Rw.elems l).len=l.length:=rfl;rw[e3] at h6;omega
     have ah1:(uG l (k+j)).length<=l.length:=by have:=JA l (k+j); omega
     repeat(refine VC.mk (by first|(simp only[Rw.qH,hml]; omega)|(refine⟨?_,rfl⟩; show((uG l (k+j)).length:Int).toNat<=(mid l (k+j)).length; rw[hml,Int.toNat_natCast]; omega)|(show(0:Int)<=((uG l (k+j)).length:Int)/\((uG l (k+j)).length:Int)<=(((mid l (k+j)).take ((uG l (k+j)).length:Int).toNat).length:Int); rw[List.length_take,hml,Int.toNat_natCast]; omega)|(show _<=(mid l (k+j)).length/\(mid l (k+j)).length=(mid l (k+j)).length; rw[hml]; simp only[Int.toNat_natCast]; omega)|(show(0:Int)<=_/\_<=(((mid l (k+j)).take _).length:Int); rw[List.length_take,hml]; simp only[Int.toNat_natCast]; omega)) ?_)
     have htk:(mid l (k+j)).take ((uG l (k+j)).length:Int).toNat=uH l:=by
      rw[Int.toNat_natCast]; unfold mid; rw[List.take_left,hj']; rfl
     have hcl:((uG l (k+j)).length:Int).toNat=(uH l).length:=by rw[Int.toNat_natCast,hj']; rfl
     refine iP.one (c:=0) (j:=0) (o:=.row 35 3 (.elems (uH l)) (List.replicate ((mid l (k+j)).length-((uG l (k+j)).length:Int).toNat) zeroV)) (t:=.qw 0 0 (uH l).length) ?_ (KC _ _ _) (Fz _ _) (fun _=>rfl) (.inl rfl) rfl (.eq ?_) (.inr ⟨_,rfl,rfl⟩)
     ·rw[<- htk]; rfl
     ·rw[<- hcl]; rfl
   ·conv=>whnf
    refine .mk (by simp only[okI] at *; omega) ?_;refine⟨k+1,⟨by omega,by omega,fun i h5 h6=>?_⟩,by omega,⟨⟨_,rfl,rfl⟩,trivial⟩,?_,rfl⟩
    ·by_cases e:i=k
     ·subst e; rw[e1] at h4; simpa using h4
     ·exact hne i h5 (by omega)
    ·repeat' (first|exact trivial|exact⟨_,rfl,rfl⟩|constructor)
  ·conv=>whnf
   have hk':l.length<=k:=by simpa using h3
   have hc:uH l=l:=by
    rw[uH,KE (Nat.le_refl _) (fun i h3 h4=>hne i h3 (by omega)),List.take_length]
   exact iP.one (c:=0) (j:=0) (o:=bI l) (t:=.own 0) rfl rfl rfl (fun _=>rfl) (.inl rfl) rfl (.eq rfl) (.inl ⟨hc,rfl,rfl⟩)
theorem S.X4:aj Tryz.prog 152 [.raw (.lit (.int .u64 0))] (.int 0):=by
 refine aj.of Bd.vC (by simp) rfl rfl ?_;refine Fork.mk (fun q=>absurd (q.symm.trans ((rfl:decide ((4294967296:Int)<=0)=false))).symm Bool.false_ne_true) (fun _=>?_);refine Fork.mk (fun q=>absurd (q.symm.trans ((rfl:decide ((65536:Int)<=0)=false))).symm Bool.false_ne_true) (fun _=>?_);refine Fork.mk (fun q=>absurd (q.symm.trans ((rfl:decide ((256:Int)<=0)=false))).symm Bool.false_ne_true) (fun _=>?_);refine .mk (by omega) ?_;repeat(refine VC.mk (by constructor<;>decide) ?_)
 exact ak.int (by decide)
theorem S.bitsLen:aj Tryz.prog 129 [.raw (.lit (.int .u64 0))] (.int 0):=by
 refine aj.of Bd.yP (by simp) rfl rfl ?_;refine Fork.mk (fun q=>absurd (q.symm.trans ((rfl:false=false))).symm Bool.false_ne_true) (fun _=>?_);refine ah.pure (S.X4) rfl ?_;exact ak.int rfl
theorem S.UM(n:Nat):aO Tryz.prog 143 (V.aT [.own 0,.int 0,.int 0,.fn 95 []]) (h1 []).ay n (fun t hp=>t= .eX []/\hp=(h1 []).ay):=by
 refine oU.of (nx:=1) (h0:=h1 []) Bd.dB (by simp) ⟨_,_,rfl,rfl⟩ rfl rfl ?_;refine .mk (by simp only[okI] at *; omega) ?_;refine aA.times 1 rfl ?_;refine Fork.mk (fun q=>absurd (q.symm.trans ((rfl:decide ((0:Int)+1<0)=false))).symm Bool.false_ne_true) (fun _=>?_);exact iP.one (c:=0) (j:=0) (o:=bI []) (t:=.eX []) rfl rfl rfl (fun _=>rfl) (.inl rfl) trivial (.eq rfl) ⟨rfl,rfl⟩
theorem S.aho(n:Nat):aO Tryz.prog 128 (V.aT [.own 0,.int 0,.int 0,.int 0,.fn 95 []]) (h1 []).ay n (fun t hp=>t= .eX []/\hp=(h1 []).ay):=by
 refine oU.of (nx:=1) (h0:=h1 []) Bd.gX (by simp) ⟨_,_,rfl,rfl⟩ rfl rfl ?_;refine aA.times 1 rfl ?_;refine .mk (by simp only[okI] at *; omega) ?_;refine Fork.mk (fun _=>?_) (fun q=>absurd (q.symm.trans ((rfl:decide ((0:Int)-0<=12)=true))) Bool.false_ne_true);refine ah.heap (S.UM _) (fun t hp ⟨e1,e2⟩=>⟨.eX [],h1 [],e1,e2,?_⟩);exact iP.one (c:=0) (j:=0) (o:=bI []) (t:=.eX []) rfl rfl rfl (fun _=>rfl) (.inl rfl) trivial (.eq rfl) ⟨rfl,rfl⟩
theorem S.acX(n:Nat):aO Tryz.prog 98 (V.aT [.own 0,.fn 95 []]) (h1 []).ay n (fun t hp=>t= .eX []/\hp=(h1 []).ay):=by
 refine oU.of (nx:=1) (h0:=h1 []) Bd.dn (by simp) ⟨_,_,rfl,rfl⟩ rfl rfl ?_;refine .mk (by simp only[List.length_nil]; omega) ?_;refine ah.pure (S.bitsLen) rfl ?_;refine ah.heap (S.aho _) (fun t hp ⟨e1,e2⟩=>⟨.eX [],h1 [],e1,e2,?_⟩);exact iP.one (c:=0) (j:=0) (o:=bI []) (t:=.eX []) rfl rfl rfl (fun _=>rfl) (.inl rfl) trivial (.eq rfl) ⟨rfl,rfl⟩
theorem X5: ∀ a b:List Int,cmpL b a= -cmpL a b:=by
 intro a;induction a with
 |nil=>intro b; cases b<;>rfl
 |cons x a ih =>
  intro b;cases b with
  |nil=>rfl
  |cons y b =>
   simp only[cmpL];by_cases h1:x<y
   ·have h2: ¬ y<x:=by omega
    simp[h1,h2]
   ·by_cases h2:y<x
    ·simp[h1,h2]
    ·simp[h1,h2,ih]
theorem pU(a b:Elem):gU b a= -gU a b:=by
 simp only[gU];by_cases h1:a.value<b.value
 ·have h2: ¬ b.value<a.value:=by omega
  simp[h1,h2]
 ·by_cases h2:b.value<a.value
  ·simp[h1,h2]
  ·simp[h1,h2,X5 a.counts b.counts]
theorem UN: ∀ {a b c:List Int},cmpL a b<0->cmpL b c<0->cmpL a c<0:=by
 intro a;induction a with
 |nil =>
  intro b c h1 h2;cases b with
  |nil=>simp[cmpL] at h1
  |cons y b=>cases c with
   |nil=>simp[cmpL] at h2
   |cons z c=>simp[cmpL]
 |cons x a ih =>
  intro b c h1 h2;cases b with
  |nil=>simp[cmpL] at h1
  |cons y b=>cases c with
   |nil=>simp[cmpL] at h2
   |cons z c =>
    simp only[cmpL] at h1 h2 ⊢;by_cases a1:x<y
    ·by_cases a2:y<z
     ·rw[if_pos (by omega)]; omega
     ·by_cases a3:z<y
      ·simp[a2,a3] at h2
      ·rw[if_pos (by omega)]; omega
    ·by_cases a4:y<x
     ·simp[a1,a4] at h1
     ·simp only[a1,a4,if_false] at h1;have e:x=y:=by omega
      subst e;by_cases a2:x<z
      ·simp[a2]
      ·by_cases a3:z<x
       ·simp[a2,a3] at h2
       ·simp only[a2,a3,if_false] at h2 ⊢;exact ih h1 h2
theorem qW{a b c:Elem}(h1:gU a b<0)(h2:gU b c<0):gU a c<0:=by
 simp only[gU] at h1 h2 ⊢;by_cases a1:a.value<b.value
 ·by_cases a2:b.value<c.value
  ·rw[if_pos (by omega)]; omega
  ·by_cases a3:c.value<b.value
   ·simp[a2,a3] at h2
   ·rw[if_pos (by omega)]; omega
 ·by_cases a4:b.value<a.value
  ·simp[a1,a4] at h1
  ·simp only[a1,a4,if_false] at h1;by_cases a2:b.value<c.value
   ·rw[if_pos (by omega)]; omega
   ·by_cases a3:c.value<b.value
    ·simp[a2,a3] at h2
    ·simp only[a2,a3,if_false] at h2;rw[if_neg (by omega),if_neg (by omega)];exact UN h1 h2
theorem Ea{a b c:Elem}(h1: ¬ gU b a<0)(h2: ¬ gU c b<0): ¬ gU c a<0:=by
 rw[pU a b] at h1;rw[pU b c] at h2;rw[pU a c];by_cases e1:gU a b=0
 ·rw[jI] at e1; subst e1; exact h2
 ·by_cases e2:gU b c=0
  ·rw[jI] at e2; subst e2; exact h1
  ·have:=qW (a:=a) (b:=b) (c:=c) (by omega) (by omega);omega
def FP(l:List Elem):Prop:=l.Pairwise fun a b=> ¬ gU b a<0
def UO(e:Elem):List Elem->List Elem
 |[]=>[e]
 |x::r=>if gU x e<0 then x::UO e r else e::x::r
def sG(l:List Elem):List Elem:=l.foldr UO []
theorem NT(e:Elem): ∀ l,(UO e l).Perm (e::l):=by
 intro l;induction l with
 |nil=>exact .refl _
 |cons x r ih =>
  simp only[UO]; split
  ·exact((ih.cons x).trans (.swap e x r))
  ·exact .refl _
theorem xg: ∀ l,(sG l).Perm l:=by
 intro l;induction l with
 |nil=>exact .refl _
 |cons x r ih=>exact(NT x _).trans (ih.cons x)
theorem aaq(e:Elem): ∀ l,FP l->FP (UO e l):=by
 intro l;induction l with
 |nil=>intro _; simp[FP,UO]
 |cons x r ih =>
  intro h;have h':=h;simp only[FP,List.pairwise_cons] at h;simp only[UO];split
  ·rename_i hlt;simp only[FP,List.pairwise_cons];refine⟨fun y hy=>?_,ih h.2⟩;rcases List.mem_cons.1 ((NT e r).mem_iff.1 hy) with rfl|hy
   ·rw[pU]; omega
   ·exact h.1 y hy
  ·rename_i hge;simp only[FP,List.pairwise_cons];refine⟨fun y hy=>?_,h⟩;rcases List.mem_cons.1 hy with rfl|hy
   ·exact hge
   ·exact Ea hge (h.1 y hy)
theorem Dv: ∀ l,FP (sG l):=by
 intro l;induction l with
 |nil=>simp[FP,sG]
 |cons x r ih=>exact aaq x _ ih
theorem UQ: ∀ {a b:List Elem},a.Perm b->FP a->FP b->a=b:=by
 intro a;induction a with
 |nil=>intro b hp _ _; exact hp.nil_eq
 |cons x a ih =>
  intro b hp ha hb;cases b with
  |nil=>exact absurd hp.symm (by simp)
  |cons y b =>
   have h1:=ha; have h2:=hb;simp only[FP,List.pairwise_cons] at h1 h2;have hxy:x=y:=by
    by_cases e:x=y
    ·exact e
    ·have hx:x∈b:=by
      rcases List.mem_cons.1 (hp.mem_iff.1 (by simp:x∈x::a)) with h|h
      ·exact absurd h e
      ·exact h
     have hy:y∈a:=by
      rcases List.mem_cons.1 (hp.mem_iff.2 (by simp:y∈y::b)) with h|h
      ·exact absurd h.symm e
      ·exact h
     have g1:=h1.1 y hy;have g2:=h2.1 x hx;rw[pU] at g1
     have:gU x y=0:=by omega
     exact jI.1 this
   subst hxy;rw[ih (List.Perm.cons_inv hp) h1.2 h2.2]
def Eb:T->Elem
 | .agg [.lit (.int _ v),.sl _ _ l]=>⟨v,l.map yQ⟩
 |_=>default
theorem JB(e:Elem):Eb (gJ e)=e:=by
 obtain⟨v,c⟩:=e;simp only[gJ,Eb]
 congr 1
 rw[List.map_map];conv=>rhs; rw[<- List.map_id c]
 exact List.map_congr_left fun x _=>rfl
theorem S.ahp{x y:Elem}(hx:x.counts.length<2^40)(hy:y.counts.length<2^40):xk Tryz.prog 95 [gJ x,gJ y] (.int (gU x y)):=S.iZ x y hx hy
theorem aar(l:List Elem):(h1 l).ay=upd no 0 (some ⟨35,3,l.map gJ⟩):=by
 show Hz.ay ((0,some (bI l))::[])=_;rw[dA];simp[bI,OV.au,Rw.aT,V.aT]; rfl
theorem ae6: ∀ w,(isAgg 35).run Tryz.prog w= .ok true w:=fun w=>zV (k:=3) (by kernel_rfl)
theorem agw: ∀ w,(Go.sizeOf 35).run Tryz.prog w= .ok 2 w:=fun w=>jf (k:=3) (by kernel_rfl)
theorem S.SortFunc(l:List Elem)(n:Nat)(hl:l.length<2^30)(hs:dX l) :
  aO Tryz.prog 98 (V.aT [.own 0,.fn 95 []]) (h1 l).ay n (fun t hp=>t= .eX []/\hp=(h1 (sG l)).ay):=by
 by_cases hne:l=[]
 ·subst hne;exact S.acX n
 ·have hx: ∀ t∈l.map gJ,∃ e∈l,t=gJ e:=fun t ht=>by obtain⟨e,he,rfl⟩:=List.mem_map.1 ht; exact⟨e,he,rfl⟩
  have H:=aO.sort (n:=n) Tryz.laySort 2 (by decide) ae6 agw (by exact Bd.dn.cl) (g:=95) (by decide) (by exact Bd.iZ.cl) (l:=l.map gJ) (by simpa using hne)
   (fun t ht=>by obtain⟨e,_,rfl⟩:=hx t ht; rfl) (EG l) (by simp; omega) (fun x y=>gU (Eb x) (Eb y))
   (fun t ht=>by rw[jI.2 rfl]; decide)
   (fun x _ y _ z _ h1 h2=>qW h1 h2)
   (fun x _ y _ z _ h1 h2=>Ea h2 h1)
   (fun x hx1 y hy1=>by
    obtain⟨a,ha,rfl⟩:=hx x hx1;obtain⟨b,hb,rfl⟩:=hx y hy1
    simp only[JB]; exact S.ahp (hs a ha) (hs b hb))
   (by decide) ⟨(sG l).map gJ,(xg l).map gJ,by
    rw[List.pairwise_map]; simp only[JB]; exact Dv l⟩ (h:=(h1 l).ay) (i:=0) (ty:=35) (by rw[aar]; rfl)
  refine aO.mono H ?_;rintro t hp ⟨rfl,l',hp',hpw,rfl⟩;refine⟨rfl,?_⟩;have hl':l'=(l'.map Eb).map gJ:=by
   rw[List.map_map];conv=>lhs; rw[<- List.map_id l']
   refine List.map_congr_left fun t ht=>?_
   obtain⟨e,_,rfl⟩:=hx t (hp'.mem_iff.1 ht);simp[JB]
  have hperm:(l'.map Eb).Perm l:=by
   have:=hp'.map Eb;rw[List.map_map] at this;have e:l.map (Eb ∘ gJ)=l:=by
    conv=>rhs; rw[<- List.map_id l]
    exact List.map_congr_left fun e _=>JB e
   rw[e] at this; exact this
  have hsrt:FP (l'.map Eb):=by
   unfold FP; rw[List.pairwise_map]; exact hpw
  have heq:l'.map Eb=sG l:=UQ (hperm.trans (xg l).symm) hsrt (Dv l);rw[aar,aar];rw[hl',heq];funext j;simp only[upd]; split<;>rfl
def rC(l:List Elem):List Elem:=uH (sG l)
theorem NU(l:List Elem):(sG l).length=l.length:=(xg l).length_eq
theorem Q8{l:List Elem}(h:dX l):dX (sG l):=fun e he=>h e ((xg l).mem_iff.1 he)
theorem S.tY(l:List Elem)(n:Nat)(hl:l.length<2^30)(hs:dX l) :
  aO Tryz.prog 64 (V.aT [.own 0]) (h1 l).ay n
   (fun t hp=>(t= .own 0/\hp=(h1 (rC l)).ay)\/(∃ m,t= .qw 0 0 (rC l).length/\hp=Hz.ay [(0,some (.row 35 3 (.elems (rC l)) (List.replicate m zeroV)))])):=by
 refine oU.of (nx:=1) Bd.tY (by simp) ⟨_,_,.inl ⟨rfl,rfl⟩⟩ rfl rfl ?_;refine ah.heap (S.SortFunc l _ hl hs) ?_;rintro t hp ⟨rfl,rfl⟩;refine⟨.eX [],h1 (sG l),rfl,rfl,?_⟩;refine ah.heap (S.Q7 (sG l) _ (by rw[NU]; exact hl) (Q8 hs)) ?_;rintro t hp (⟨hc,rfl,rfl⟩|⟨m,rfl,rfl⟩)
 ·refine⟨.own 0,h1 (sG l),rfl,rfl,?_⟩;refine iP.one (c:=0) (j:=0) (o:=bI (sG l)) (t:=.own 0) rfl rfl rfl (fun _=>rfl) (.inl rfl) rfl (.eq rfl) (.inl ⟨rfl,?_⟩);rw[rC,hc]
 ·refine⟨.qw 0 0 (uH (sG l)).length,[(0,some (.row 35 3 (.elems (uH (sG l))) (List.replicate m zeroV)))],rfl,rfl,?_⟩;exact iP.one (c:=0) (j:=0) (o:=.row 35 3 (.elems (uH (sG l))) (List.replicate m zeroV)) (t:=.qw 0 0 (uH (sG l)).length) rfl (KC _ _ _) (Fz _ _) (fun _=>rfl) (.inl rfl) rfl (.eq rfl) (.inr ⟨m,rfl,rfl⟩)
def vJ(l:List Elem)(x:Elem):Bool:= !(l.any (yO x))
def aY(l:List Elem):List Elem:=rC (l.filter (vJ l))
theorem Q9{l:List Elem}{p:Elem->Bool}{i:Nat}(h:i<l.length):(l.take (i+1)).filter p=(l.take i).filter p++(if p (l.getD i default)=true then [l.getD i default] else []):=by
 rw[List.take_add_one,List.filter_append]
 congr 1
 simp only[List.getElem?_eq_getElem h,Option.toList_some,List.getD_eq_getElem?_getD,Option.getD_some,List.filter_cons,List.filter_nil]
theorem ak.acL{h:Hz}{j m:Nat}{l:List Elem}(q:h.get j=some (.row 35 3 (.elems l) (List.replicate m zeroV))):ak (.row 3 false (.elems l)) (.qw j 0 l.length) h:=⟨by
 show T.sub (fun _=>True) h.ay (.sl 3 false (l.map gJ)) (.qw j 0 l.length);simp only[T.sub];refine⟨trivial,trivial,EG l,by decide,35,l.map gJ++V.aT (List.replicate m zeroV),?_,by simp,by simp⟩
 exact aK q⟩
theorem S.lH(l:List Elem)(f:Bool)(hl:l.length<2^29)(hs:dX l):aj Tryz.prog 33 [.row 3 f (.elems l)] (.row 3 false (.elems (aY l))):=by
 refine aj.of Bd.lH (by simp) rfl rfl ?_;refine aA.nil 3 35 3 (by rfl) rfl rfl rfl ?_;refine aA.objs 1 [0,8,9] (fun i:Nat=>[(10,.int i),(3,.own 0)]) (fun i=>[(0,bI ((l.take i).filter (vJ l)))]) (fun i=>i<=l.length) (fun i=>l.length-i) 0 [5] rfl (by decide) (fun _=>rfl) (Nat.zero_le _) ?_ ?_ ?_
 ·exact(sR rfl)
 ·exact⟨dQ rfl rfl,trivial⟩
 refine⟨(sR rfl),rfl,?_⟩;rintro i hi;have hfl:((l.take i).filter (vJ l)).length<=i:=by
  have:=List.length_filter_le (vJ l) (l.take i);simp at this; omega
 refine⟨fun h3=>?_,fun h3=>?_⟩
 ·have hi':i<l.length:=by simpa using h3
  have hstep:=Q9 (p:=vJ l) hi';refine .mk (by simp only[Rw.rng] at *; omega) ?_;refine ah.pure (S.MZ l (l.getD i default) false f (by omega) hs (hs.get i)) rfl ?_;refine⟨fun h4=>?_,fun h4=>?_⟩
  ·conv=>whnf
   refine ah.pure (S.kT (l.getD i default) (l.any (yO (l.getD i default))) (hs.get i)) rfl ?_;repeat(refine VC.mk (by first|(show(((l.take i).filter (vJ l)).length+(0+1))*32<=140737488355328/\((l.take i).filter (vJ l)).length+(0+1)<=1152921504606846976; omega)|(simp only[okI] at *; omega)) ?_)
   refine⟨i+1,[25],by omega,by omega,(sR rfl),(sR rfl),⟨rfl,nofun,rfl,rfl,rfl,_,rfl,rfl,rfl,dU.of_eq ?_⟩,trivial⟩;rw[hstep,if_pos (show vJ l (l.getD i default)=true from h4)];show List.map gJ _++[]=List.map gJ _++[gJ _];simp
  ·conv=>whnf
   refine .mk (by simp only[okI] at *; omega) ?_;refine⟨i+1,[0],by omega,by omega,(sR rfl),(sR rfl),⟨rfl,nofun,rfl,rfl,rfl,_,rfl,rfl,rfl,dU.of_eq ?_⟩,trivial⟩;rw[hstep,if_neg (by rw[show vJ l (l.getD i default)=false from h4]; decide),List.append_nil]
 ·have hi':l.length<=i:=by simpa using h3
  have hA:l.take i=l:=List.take_of_length_le hi';rw[hA] at hfl ⊢;refine ah.heap (S.tY (l.filter (vJ l)) _ (by omega) (fun e he=>hs e (List.mem_filter.1 he).1)) ?_;rintro t hp (⟨rfl,rfl⟩|⟨m,rfl,rfl⟩)
  ·refine⟨.own 0,h1 _,rfl,rfl,?_⟩;exact ak.ZW rfl
  ·refine⟨.qw 0 0 _,[(0,some _)],rfl,rfl,?_⟩;exact ak.acL rfl
theorem aas: ∀ {a b:List Int},ny a b=true->cmpL a b<=0:=by
 intro a;induction a with
 |nil=>intro b h; cases b<;>simp[ny,cmpL] at *
 |cons x a ih =>
  intro b h;cases b with
  |nil=>simp[ny] at h
  |cons y b =>
   simp only[ny,Bool.and_eq_true,decide_eq_true_eq] at h;simp only[cmpL];by_cases h1:x<y
   ·simp[h1]
   ·have h2: ¬ y<x:=by omega
    simp only[h1,h2,if_false]; exact ih h.2
theorem Kw{a b:Elem}(h:mM a b=true):gU a b<=0:=by
 simp only[mM,Bool.and_eq_true,beq_iff_eq] at h;simp only[gU];rw[if_neg (by omega),if_neg (by omega)];exact aas h.2
theorem X6: ∀ a:List Int,ny a a=true:=by
 intro a;induction a with
 |nil=>rfl
 |cons x a ih=>simp[ny,ih]
theorem NV(a:Elem):mM a a=true:=by simp[mM,X6]
theorem UR: ∀ {a b c:List Int},ny a b=true->ny b c=true->ny a c=true:=by
 intro a;induction a with
 |nil=>intro b c h1 h2; cases b<;>cases c<;>simp[ny] at *
 |cons x a ih =>
  intro b c h1 h2;cases b with
  |nil=>simp[ny] at h1
  |cons y b=>cases c with
   |nil=>simp[ny] at h2
   |cons z c =>
    simp only[ny,Bool.and_eq_true,decide_eq_true_eq] at *;exact⟨by omega,ih h1.2 h2.2⟩
theorem ED{a b c:Elem}(h1:mM a b=true)(h2:mM b c=true):mM a c=true:=by
 simp only[mM,Bool.and_eq_true,beq_iff_eq] at *;exact⟨by omega,UR h1.2 h2.2⟩
theorem rX{x y:Elem}:yO x y=true↔mM y x=true/\y≠x:=by
 simp only[yO,Bool.and_eq_true,bne_iff_ne,ne_eq,jI]
theorem Jz{x y:Elem}(h:yO x y=true):gU y x<0:=by
 rw[rX] at h;have h1:=Kw h.1;have h2:gU y x≠0:=fun e=>h.2 (jI.1 e)
 omega
def SS(l:List Elem):Prop:=l.Pairwise fun a b=>gU a b<0
theorem Hu: ∀ {a b:List Elem},SS a->SS b->(∀ x,x∈a↔x∈b)->a=b:=by
 intro a;induction a with
 |nil =>
  intro b _ _ h;cases b with
  |nil=>rfl
  |cons y b=>exact absurd ((h y).2 (by simp)) (by simp)
 |cons x a ih =>
  intro b ha hb h;cases b with
  |nil=>exact absurd ((h x).1 (by simp)) (by simp)
  |cons y b =>
   simp only[SS,List.pairwise_cons] at ha hb;have hself: ∀ z:Elem,¬ gU z z<0:=fun z=>by rw[jI.2 rfl]; decide
   have hxy:x=y:=by
    rcases List.mem_cons.1 ((h x).1 (by simp)) with e|hx
    ·exact e
    ·rcases List.mem_cons.1 ((h y).2 (by simp)) with e|hy
     ·exact e.symm
     ·exact absurd (qW (ha.1 y hy) (hb.1 x hx)) (hself x)
   subst hxy;rw[ih ha.2 hb.2 fun z=>?_];constructor
   ·intro hz;rcases List.mem_cons.1 ((h z).1 (by simp[hz])) with e|h'
    ·subst e; exact absurd (ha.1 z hz) (hself z)
    ·exact h'
   ·intro hz;rcases List.mem_cons.1 ((h z).2 (by simp[hz])) with e|h'
    ·subst e; exact absurd (hb.1 z hz) (hself z)
    ·exact h'
theorem NW{l:List Elem}(hs:FP l): ∀ n,n<=l.length->SS (uG l n)/\(∀ x,x∈uG l n↔x∈l.take n)/\(∀ x∈uG l n,n<l.length-> ¬ gU (l.getD n default) x<0):=by
 intro n;induction n with
 |zero=>intro _; exact⟨by simp[SS,uG],by simp[uG],by simp[uG]⟩
 |succ n ih =>
  intro hn;obtain⟨h1,h2,h3⟩:=ih (by omega);have hnl:n<l.length:=by omega
  have hmono: ∀ i j,i<=j->j<l.length-> ¬ gU (l.getD j default) (l.getD i default)<0:=by
   intro i j hij hj;by_cases e:i=j
   ·subst e; rw[jI.2 rfl]; decide
   ·have:=List.pairwise_iff_getElem.1 hs i j (by omega) hj (by omega);simpa [hj,show i<l.length by omega] using this
  have htake: ∀ x,x∈l.take n-> ∃ i,i<n/\l.getD i default=x:=by
   intro x hx;rw[List.mem_take_iff_getElem] at hx;obtain⟨i,hi,e⟩:=hx;exact⟨i,by omega,by rw[<- e]; simp[show i<l.length by omega]⟩
  have hlast:l.take (n+1)=l.take n++[l.getD n default]:=by
   rw[List.take_add_one]; simp[hnl]
  simp only[uG];split
  ·rename_i hc;refine⟨?_,?_,?_⟩
   ·simp only[SS,List.pairwise_append];refine⟨h1,by simp,fun x hx y hy=>?_⟩;rw[List.mem_singleton] at hy; subst hy;have hge:=h3 x hx hnl;rw[pU] at hge;have hne:gU x (l.getD n default)≠0:=by
     intro e;rw[jI] at e;rcases hc with hc|hc
     ·subst hc; simp[uG] at hx
     ·obtain⟨i,hi,hix⟩:=htake x ((h2 x).1 hx);have g1:=hmono i (n-1) (by omega) (by omega);have g2:=hmono (n-1) n (by omega) hnl;rw[hix,e] at g1;rw[pU] at g1
      have:gU (l.getD n default) (l.getD (n-1) default)=0:=by omega
      exact hc (jI.1 this)
    omega
   ·intro x;rw[hlast];simp only[List.mem_append,h2]
   ·intro x hx hn1;rcases List.mem_append.1 hx with hx|hx
    ·obtain⟨i,hi,hix⟩:=htake x ((h2 x).1 hx);rw[<- hix]; exact hmono i (n+1) (by omega) hn1
    ·rw[List.mem_singleton] at hx; subst hx;exact hmono n (n+1) (by omega) hn1
  ·rename_i hc;have hc':n≠0/\l.getD n default=l.getD (n-1) default:=by
    constructor
    ·intro e; exact hc (.inl e)
    ·by_cases e:l.getD n default=l.getD (n-1) default
     ·exact e
     ·exact absurd (.inr e) hc
   refine⟨h1,fun x=>?_,fun x hx hn1=>?_⟩
   ·rw[hlast,h2];simp only[List.mem_append,List.mem_singleton];constructor
    ·exact .inl
    ·rintro(h|h)
     ·exact h
     ·rw[h,hc'.2];rw[List.mem_take_iff_getElem];exact⟨n-1,by omega,by simp[show n-1<l.length by omega]⟩
   ·obtain⟨i,hi,hix⟩:=htake x ((h2 x).1 hx);rw[<- hix]; exact hmono i (n+1) (by omega) hn1
theorem Ky(l:List Elem):SS (rC l):=(NW (Dv l) _ (Nat.le_refl _)).1
theorem vX(l:List Elem)(x:Elem):x∈rC l↔x∈l:=by
 unfold rC uH;rw[(NW (Dv l) _ (Nat.le_refl _)).2.1,List.take_length];exact(xg l).mem_iff
theorem X7{l:List Elem}{e:Elem}: ∀ i,i<=l.length->(∀ j,vw l e i<=j->j<i->0<gU (l.getD j default) e)/\(0<vw l e i-> ¬ 0<gU (l.getD (vw l e i-1) default) e):=by
 intro i;induction i with
 |zero=>intro _; exact⟨fun j _ h=>by omega,fun h=>by simp[vw] at h⟩
 |succ i ih =>
  intro hi;simp only[vw];split
  ·rename_i hc;obtain⟨h1,h2⟩:=ih (by omega);refine⟨fun j hj hji=>?_,h2⟩;by_cases e:j=i
   ·subst e; exact hc
   ·exact h1 j hj (by omega)
  ·rename_i hc;exact⟨fun j h1 h2=>by omega,fun _=>by simpa using hc⟩
theorem UU{l:List Elem}{e:Elem}(hs:SS l):SS (wY l e)/\ ∀ x,x∈wY l e↔x=e\/x∈l:=by
 obtain⟨h1,h2⟩:=X7 (l:=l) (e:=e) l.length (Nat.le_refl _);have hp:=Wv (l:=l) (e:=e) l.length;have hlt: ∀ i j,i<j->j<l.length->gU (l.getD i default) (l.getD j default)<0:=by
  intro i j hij hj;have:=List.pairwise_iff_getElem.1 hs i j (by omega) hj hij;simpa [hj,show i<l.length by omega] using this
 unfold wY;split
 ·rename_i hf;simp only[EH,Bool.and_eq_true,decide_eq_true_eq] at hf;refine⟨hs,fun x=>⟨.inr,?_⟩⟩;rintro(rfl|h)
  ·have:=jI.1 hf.2;rw[<- this];have hlt':vw l x l.length-1<l.length:=by omega
   simp[hlt']
  ·exact h
 ·rename_i hf;generalize hpe:vw l e l.length=p at *;have hle: ∀ i,i<p->gU (l.getD i default) e<0:=by
   intro i hi;have hlast:gU (l.getD (p-1) default) e<0:=by
    have g1:=h2 (by omega);have g2:gU (l.getD (p-1) default) e≠0:=by
     intro e0;apply hf;simp only[EH,hpe,Bool.and_eq_true,decide_eq_true_eq];exact⟨by omega,e0⟩
    omega
   by_cases e0:i=p-1
   ·subst e0; exact hlast
   ·exact qW (hlt i (p-1) (by omega) (by omega)) hlast
  have hge: ∀ j,p<=j->j<l.length->gU e (l.getD j default)<0:=by
   intro j hj hjl;have:=h1 j hj hjl;rw[pU]; omega
  refine⟨?_,fun x=>?_⟩
  ·simp only[SS,List.pairwise_append,List.pairwise_cons];refine⟨hs.sublist (List.take_sublist _ _),⟨fun y hy=>?_,hs.sublist (List.drop_sublist _ _)⟩,fun x hx y hy=>?_⟩
   ·rw[List.mem_drop_iff_getElem] at hy;obtain⟨j,hj,rfl⟩:=hy;have:=hge (p+j) (by omega) (by omega);simpa [show p+j<l.length by omega] using this
   ·rw[List.mem_take_iff_getElem] at hx;obtain⟨i,hi,rfl⟩:=hx;have g1:=hle i (by omega);rw[show l.getD i default=l[i] by simp[show i<l.length by omega]] at g1;rcases List.mem_cons.1 hy with rfl|hy
    ·exact g1
    ·rw[List.mem_drop_iff_getElem] at hy;obtain⟨j,hj,rfl⟩:=hy;have:=hlt i (p+j) (by omega) (by omega);simpa [show p+j<l.length by omega,show i<l.length by omega] using this
  ·simp only[List.mem_append,List.mem_cons];constructor
   ·rintro(h|h|h)
    ·exact .inr (List.mem_of_mem_take h)
    ·exact .inl h
    ·exact .inr (List.mem_of_mem_drop h)
   ·rintro(h|h)
    ·exact .inr (.inl h)
    ·rw[<- List.take_append_drop p l,List.mem_append] at h;rcases h with h|h
     ·exact .inl h
     ·exact .inr (.inr h)
theorem UW: ∀ (l acc:List Elem),SS acc->SS (l.foldl wY acc)/\ ∀ x,x∈l.foldl wY acc↔x∈acc\/x∈l:=by
 intro l;induction l with
 |nil=>intro acc h; exact⟨h,by simp⟩
 |cons y l ih =>
  intro acc h;obtain⟨g1,g2⟩:=UU (e:=y) h;obtain⟨h1,h2⟩:=ih (wY acc y) g1;refine⟨h1,fun x=>?_⟩;simp only[List.foldl_cons];rw[h2,g2,List.mem_cons];constructor
  ·rintro((h|h)|h)
   ·exact .inr (.inl h)
   ·exact .inl h
   ·exact .inr (.inr h)
  ·rintro(h|h|h)
   ·exact .inl (.inr h)
   ·exact .inl (.inl h)
   ·exact .inr h
theorem filter_lt{l:List Elem}{p q:Elem->Bool}(hpq: ∀ x,p x=true->q x=true){y:Elem}(hy:y∈l)(hq:q y=true)(hp:p y=false):(l.filter p).length<(l.filter q).length:=by
 induction l with
 |nil=>cases hy
 |cons x l ih =>
  have hle: ∀ l:List Elem,(l.filter p).length<=(l.filter q).length:=by
   intro l;induction l with
   |nil=>simp
   |cons z l ih =>
    simp only[List.filter_cons];by_cases h1:p z=true
    ·rw[if_pos h1,if_pos (hpq z h1)]; simp; exact ih
    ·rw[if_neg h1]; split
     ·simp; omega
     ·exact ih
  simp only[List.filter_cons];rcases List.mem_cons.1 hy with rfl|hy
  ·rw[if_neg (by rw[hp]; decide),if_pos hq];have:=hle l;simp; omega
  ·have:=ih hy;by_cases h1:p x=true
   ·rw[if_pos h1,if_pos (hpq x h1)]; simp; exact this
   ·rw[if_neg h1]; split
    ·simp; omega
    ·exact this
theorem X8(l:List Elem): ∀ (n:Nat) (b:Elem),b∈l->(l.filter fun z=>decide (gU z b<0)).length<=n-> ∃ z∈l,mM z b=true/\l.any (yO z)=false:=by
 intro n;induction n with
 |zero =>
  intro b hb hn;refine⟨b,hb,NV b,?_⟩;rw[List.any_eq_false];intro y hy hab
  have:y∈l.filter fun z=>decide (gU z b<0):=List.mem_filter.2 ⟨hy,by simpa using Jz hab⟩
  have:=List.length_pos_of_mem this;omega
 |succ n ih =>
  intro b hb hn;cases hm:l.any (yO b) with
  |false=>exact⟨b,hb,NV b,hm⟩
  |true =>
   rw[List.any_eq_true] at hm;obtain⟨y,hy,hab⟩:=hm;have hlt:=Jz hab;have hfl:(l.filter fun z=>decide (gU z y<0)).length<(l.filter fun z=>decide (gU z b<0)).length:=by
    refine filter_lt (y:=y) (fun x hx=>?_) hy (by simpa using hlt) (by rw[jI.2 rfl]; decide);simp only[decide_eq_true_eq] at hx ⊢;exact qW hx hlt
   obtain⟨z,hz,h1,h2⟩:=ih y hy (by omega);exact⟨z,hz,ED h1 (rX.1 hab).1,h2⟩
theorem aah(l:List Elem){b:Elem}(hb:b∈l): ∃ z∈l,mM z b=true/\l.any (yO z)=false:=X8 l _ b hb (Nat.le_refl _)
theorem Rf{A:List Elem}(hA:SS A): ∀ i,i<=A.length->SS ((A.take i).foldl iM [])/\ ∀ x,x∈(A.take i).foldl iM []↔x∈A.take i/\A.any (yO x)=false:=by
 intro i;induction i with
 |zero=>intro _; simp[SS]
 |succ i ih =>
  intro hi;obtain⟨h1,h2⟩:=ih (by omega);have hil:i<A.length:=by omega
  rw[wW iM [] default hil];have hlast:A.take (i+1)=A.take i++[A.getD i default]:=by rw[List.take_add_one]; simp[hil]
  generalize hx:A.getD i default=x at hlast ⊢;have hxA:x∈A:=by rw[<- hx]; simp[hil]
  have hlt: ∀ y∈A.take i,gU y x<0:=by
   intro y hy;rw[List.mem_take_iff_getElem] at hy;obtain⟨j,hj,rfl⟩:=hy;have:=List.pairwise_iff_getElem.1 hA j i (by omega) hil (by omega);rw[<- hx]; simpa [hil] using this
  have hself: ∀ z:Elem,¬ gU z z<0:=fun z=>by rw[jI.2 rfl]; decide
  have hbef: ∀ y∈A,gU y x<0->y∈A.take i:=by
   intro y hy hyx;rw[<- List.take_append_drop i A,List.mem_append] at hy;rcases hy with hy|hy
   ·exact hy
   ·exfalso;rw[List.mem_drop_iff_getElem] at hy;obtain⟨j,hj,rfl⟩:=hy;by_cases e:j=0
    ·subst e
     have:A[i+0]=x:=by rw[<- hx]; simp[hil]
     rw[this] at hyx; exact hself x hyx
    ·have:=List.pairwise_iff_getElem.1 hA i (i+j) hil (by omega) (by omega);rw[show A[i]=x by rw[<- hx]; simp[hil]] at this;exact hself x (qW this hyx)
  have hkey:(((A.take i).foldl iM []).any fun b=>mM b x)=A.any (yO x):=by
   rw[Bool.eq_iff_iff,List.any_eq_true,List.any_eq_true];constructor
   ·rintro⟨b,hb,hbx⟩;obtain⟨hb1,hb2⟩:=(h2 b).1 hb;refine⟨b,List.mem_of_mem_take hb1,rX.2 ⟨hbx,?_⟩⟩;rintro rfl;exact hself b (hlt b hb1)
   ·rintro⟨y,hy,hyx⟩;obtain⟨z,hz,hz1,hz2⟩:=aah A hy;have hzx:=ED hz1 (rX.1 hyx).1;have ahq:gU z x<0:=by
     have g1:=Kw hz1;have g2:=Jz hyx;by_cases e:gU z y=0
     ·rw[jI] at e; subst e; exact g2
     ·exact qW (by omega) g2
    exact⟨z,(h2 z).2 ⟨hbef z hz ahq,hz2⟩,hzx⟩
  generalize (A.take i).foldl iM []=K at h1 h2 hkey ⊢;unfold iM;rw[hkey];cases hm:A.any (yO x) with
  |true =>
   rw[if_pos rfl];refine⟨h1,fun y=>?_⟩;rw[h2,hlast];simp only[List.mem_append,List.mem_singleton];constructor
   ·rintro⟨a,b⟩; exact⟨.inl a,b⟩
   ·rintro⟨a|a,b⟩
    ·exact⟨a,b⟩
    ·subst a; rw[hm] at b; cases b
  |false =>
   rw[if_neg (by decide)];refine⟨?_,fun y=>?_⟩
   ·simp only[SS,List.pairwise_append];refine⟨h1,by simp,fun a ha b hb=>?_⟩;rw[List.mem_singleton] at hb; subst hb;exact hlt a ((h2 a).1 ha).1
   ·rw[hlast];simp only[List.mem_append,List.mem_singleton,h2];constructor
    ·rintro(⟨a,b⟩|a)
     ·exact⟨.inl a,b⟩
     ·subst a; exact⟨.inr rfl,hm⟩
    ·rintro⟨a|a,b⟩
     ·exact .inl ⟨a,b⟩
     ·exact .inr a
theorem any_congr{a b:List Elem}{p:Elem->Bool}(h: ∀ x,x∈a↔x∈b):a.any p=b.any p:=by
 rw[Bool.eq_iff_iff,List.any_eq_true,List.any_eq_true];exact⟨fun⟨x,h1,h2⟩=>⟨x,(h x).1 h1,h2⟩,fun⟨x,h1,h2⟩=>⟨x,(h x).2 h1,h2⟩⟩
theorem FQ(l:List Elem):SS (HY l)/\ ∀ x,x∈HY l↔x∈l/\l.any (yO x)=false:=by
 obtain⟨a1,a2⟩:=UW l [] (by simp[SS]);have hmem: ∀ x,x∈QY l↔x∈l:=fun x=>by rw[QY,a2]; simp
 obtain⟨h1,h2⟩:=Rf (A:=QY l) a1 _ (Nat.le_refl _);rw[List.take_length] at h1 h2;refine⟨h1,fun x=>?_⟩;show x∈(QY l).foldl iM []↔_;rw[h2,hmem,any_congr hmem]
theorem mJ(l:List Elem):SS (aY l)/\ ∀ x,x∈aY l↔x∈l/\l.any (yO x)=false:=by
 refine⟨Ky _,fun x=>?_⟩;rw[aY,vX,List.mem_filter];simp[vJ]
theorem UY(l:List Elem):aY l=HY l :=
 Hu (mJ l).1 (FQ l).1 fun x=>by rw[(mJ l).2,(FQ l).2]
theorem ug{l:List Elem}{x:Elem}(h:x∈aY l):x∈l:=(((mJ l).2 x).1 h).1
theorem zW(l:List Elem):(aY l).length<=l.length:=by
 have h1:=JA (sG (l.filter (vJ l))) (sG (l.filter (vJ l))).length;have h2:=NU (l.filter (vJ l));have h3:=List.length_filter_le (vJ l) l;show(uG _ _).length<=_;omega
end Go.Proofs.YtkmldgihhaooaaaGreatDoor
