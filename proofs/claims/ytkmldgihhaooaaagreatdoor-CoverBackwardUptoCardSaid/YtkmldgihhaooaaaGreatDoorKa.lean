/-
 A part of the proof. No condition.
-/
import Derived.Test.YtkmldgihhaooaaaGreatDoorSb
import Derived.Test.YtkmldgihhaooaaaGreatDoorLg
import Derived.Test.YtkmldgihhaooaaaGreatDoorLe
import Derived.Test.YtkmldgihhaooaaaGreatDoorSc
namespace Go.Proofs.YtkmldgihhaooaaaGreatDoor
open Go.Ab Go.Proofs
set_option maxRecDepth 100000
def nI:List Int->List Int->Bool
 |[],[]=>true
 |x::a,y::b=>decide (x<=y)&&nI a b
 |_,_=>false
def kK(a b:Elem):Bool:=(a.value==b.value)&&nI a.counts b.counts
theorem nJ: ∀ {a b:List Int},nI a b=true↔a.length=b.length/\ ∀ j,j<a.length->a.getD j 0<=b.getD j 0:=by
 intro a;induction a with
 |nil=>intro b; cases b<;>simp[nI]
 |cons x a ih =>
  intro b;cases b with
  |nil=>simp[nI]
  |cons y b =>
   simp only[nI,Bool.and_eq_true,decide_eq_true_eq,ih,List.length_cons];constructor
   ·rintro⟨h1,h2,h3⟩;refine⟨by omega,fun j hj=>?_⟩;cases j with
    |zero=>simpa using h1
    |succ j=>simpa using h3 j (by omega)
   ·rintro⟨h1,h2⟩;exact⟨by simpa using h2 0 (by omega),by omega,fun j hj=>by simpa using h2 (j+1) (by omega)⟩
theorem S.wB(a b:Elem)(ha:a.counts.length<2^40)(_hb:b.counts.length<2^40):ak Tryz.prog 38 [.dat (.elem a),.dat (.elem b)] (.bool (kK a b)):=by
 refine ak.of Bd.wB (by simp) rfl rfl ?_;repeat(refine VC.mk (by first|exact id|exact fun h=>⟨h,h⟩|(intro h; rw[h]; rfl)) ?_)
 refine⟨fun h1=>?_,fun h1=>?_⟩
 ·conv=>whnf
  refine aj.bool ?_;by_cases hv:a.value=b.value
  ·have:nI a.counts b.counts=false:=by
    rw[Bool.eq_false_iff]; intro h; rw[nJ] at h; simp[hv,h.1] at h1
   simp[kK,this]
  ·simp[kK,hv]
 ·have h2:a.value=b.value/\a.counts.length=b.counts.length:=by
   by_cases hv:a.value=b.value
   ·simp[hv] at h1; exact⟨hv,by omega⟩
   ·simp[hv] at h1
  refine aA.same [3,22,23] (fun i:Nat=>[(24,.int i)]) (fun i=>i<=a.counts.length/\ ∀ j,j<i->a.counts.getD j 0<=b.counts.getD j 0) (fun i=>a.counts.length-i) 0 rfl (by decide) rfl (fun _=>rfl) ⟨by omega,fun j hj=>by omega⟩ ⟨⟨_,rfl,rfl⟩,trivial⟩ ?_;refine⟨rfl,?_⟩;rintro i ⟨hi,hall⟩;refine⟨fun h3=>?_,fun h3=>?_⟩
  ·have hi':i<a.counts.length:=by simpa using h3
   repeat(refine VC.mk (by simp only[Rw.rng] at *; omega) ?_)
   refine⟨fun h4=>?_,fun h4=>?_⟩
   ·conv=>whnf
    refine aj.bool ?_
    have:nI a.counts b.counts=false:=by
     rw[Bool.eq_false_iff]; intro h; rw[nJ] at h; have:=h.2 i hi'; simp only[Int.toNat_natCast,decide_eq_true_eq] at h4; omega
    simp[kK,this]
   ·conv=>whnf
    refine .mk (by simp only[okI] at *; omega) ?_;refine⟨i+1,⟨by omega,fun j hj=>?_⟩,by omega,⟨⟨_,rfl,rfl⟩,trivial⟩,?_,rfl⟩
    ·by_cases e:j=i
     ·subst e; simp only[Int.toNat_natCast,decide_eq_false_iff_not] at h4; omega
     ·exact hall j (by omega)
    ·repeat' (first|exact trivial|exact⟨_,rfl,rfl⟩|constructor)
  ·conv=>whnf
   refine aj.bool ?_;have hi':a.counts.length<=i:=by simpa using h3
   simp only[kK,Bool.and_eq_true,beq_iff_eq];rw[Bool.eq_iff_iff]; simp only[iff_true];exact⟨h2.1,nJ.2 ⟨h2.2,fun j hj=>hall j (by omega)⟩⟩
def U5(a b:Int):Int:=if a<b then -1 else if b<a then 1 else 0
def cmpL:List Int->List Int->Int
 |[],[]=>0
 |[],_::_=> -1
 |_::_,[]=>1
 |x::a,y::b=>if x<y then -1 else if y<x then 1 else cmpL a b
def gV(a b:Elem):Int:=if a.value<b.value then -1 else if b.value<a.value then 1 else cmpL a.counts b.counts
theorem bY{α:Type}{l:List α}{i:Nat}(d:α)(h:i<l.length):l.drop i=l.getD i d::l.drop (i+1):=by
 rw[List.drop_eq_getElem_cons h]; simp[h]
theorem N8{a b:List Int}{i:Nat}(ha:i<a.length)(hb:i<b.length) :
  cmpL (a.drop i) (b.drop i)=if a.getD i 0<b.getD i 0 then -1 else if b.getD i 0<a.getD i 0 then 1 else cmpL (a.drop (i+1)) (b.drop (i+1)):=by
 rw[bY 0 ha,bY 0 hb]; rfl
theorem F5{a b:List Int}{i:Nat}(hi:a.length<=i\/b.length<=i)(h1:i<=a.length)(h2:i<=b.length) :
  cmpL (a.drop i) (b.drop i)=if a.length<b.length then -1 else if b.length<a.length then 1 else 0:=by
 by_cases ha:a.length<=i
 ·have e:a.drop i=[]:=List.drop_eq_nil_of_le ha;rw[e];by_cases hb:b.length<=i
  ·rw[List.drop_eq_nil_of_le hb,if_neg (by omega),if_neg (by omega)]; rfl
  ·rw[bY 0 (by omega),if_pos (by omega)]; rfl
 ·have hb:b.length<=i:=by omega
  rw[List.drop_eq_nil_of_le hb,bY 0 (by omega),if_neg (by omega),if_pos (by omega)]; rfl
theorem S.cmp_isNaN_int(a:Int):ak Tryz.prog 142 [.int a] (.bool false):=by
 refine ak.of Bd.cmp_isNaN_int (by simp) rfl rfl ?_;refine aj.bool ?_;simp
theorem S.cmp_Compare_int(a b:Int):ak Tryz.prog 126 [.int a,.int b] (.int (U5 a b)):=by
 refine ak.of Bd.cmp_Compare_int (by simp) rfl rfl ?_;refine ah.pure (S.cmp_isNaN_int a) rfl ?_;refine ah.pure (S.cmp_isNaN_int b) rfl ?_;refine Fork.mk (fun h1=>by cases h1) (fun _=>?_);refine Fork.mk (fun h1=>by cases h1) (fun _=>?_);refine⟨fun h1=>?_,fun h1=>?_⟩
 ·conv=>whnf
  exact aj.int (by simp only[decide_eq_true_eq] at h1; simp[U5,h1])
 ·conv=>whnf
  simp only[decide_eq_false_iff_not] at h1;refine⟨fun h2=>?_,fun h2=>?_⟩
  ·conv=>whnf
   exact aj.int (by simp only[decide_eq_true_eq] at h2; simp[U5,h1,h2])
  ·conv=>whnf
   exact aj.int (by simp only[decide_eq_false_iff_not] at h2; simp[U5,h1,h2])
theorem S.KQ(a b:List Int)(ha:a.length<2^40)(hb:b.length<2^40):ak Tryz.prog 127 [.row 0 false (.ints a),.row 0 false (.ints b)] (.int (cmpL a b)):=by
 refine ak.of Bd.lJ (by simp) rfl rfl ?_;refine aA.same [0,1,9,10] (fun i:Nat=>[(11,.int i)]) (fun i=>i<=a.length/\i<=b.length/\cmpL a b=cmpL (a.drop i) (b.drop i)) (fun i=>a.length-i) 0 rfl (by decide) rfl (fun _=>rfl) ⟨by omega,by omega,rfl⟩ ⟨⟨_,rfl,rfl⟩,trivial⟩ ?_;refine⟨rfl,?_⟩;rintro i ⟨hi,hj,he⟩;refine⟨fun h3=>?_,fun h3=>?_⟩
 ·have hi':i<a.length:=by simpa using h3
  refine .mk (by simp only[Rw.rng] at *; omega) ?_;refine⟨fun h4=>?_,fun h4=>?_⟩
  ·conv=>whnf
   have hb':b.length<=i:=by simpa using h4
   refine aj.int ?_;rw[he,F5 (.inr hb') hi hj,if_neg (by omega),if_pos (by omega)]
  ·have hb':i<b.length:=by simpa using h4
   refine .mk (by simp only[Rw.rng] at *; omega) ?_;refine ah.pure (S.cmp_Compare_int _ _) rfl ?_;rw[N8 hi' hb'] at he;conv=>whnf
   simp only[Int.toNat_natCast];refine⟨fun h5=>?_,fun h5=>?_⟩
   ·conv=>whnf
    refine aj.int ?_;rw[he];simp only[bne_iff_ne,ne_eq] at h5 ⊢;generalize a.getD i 0=x at h5 ⊢;generalize b.getD i 0=y at h5 ⊢;unfold U5 at h5 ⊢;by_cases h6:x<y
    ·simp[h6]
    ·by_cases h7:y<x
     ·simp[h6,h7]
     ·simp[h6,h7] at h5
   ·conv=>whnf
    refine .mk (by simp only[okI] at *; omega) ?_;conv=>whnf
    have h6: ¬ a.getD i 0<b.getD i 0/\ ¬ b.getD i 0<a.getD i 0:=by
     simp only[bne_eq_false_iff_eq] at h5;generalize a.getD i 0=x at h5 ⊢;generalize b.getD i 0=y at h5 ⊢;unfold U5 at h5;by_cases h6:x<y
     ·simp[h6] at h5
     ·by_cases h7:y<x
      ·simp[h6,h7] at h5
      ·exact⟨h6,h7⟩
    refine⟨i+1,⟨by omega,by omega,by rw[he,if_neg h6.1,if_neg h6.2]⟩,by omega,⟨⟨_,rfl,rfl⟩,trivial⟩,?_,rfl⟩;repeat' (first|exact trivial|exact⟨_,rfl,rfl⟩|constructor)
 ·have hi':a.length<=i:=by simpa using h3
  refine⟨fun h4=>?_,fun h4=>?_⟩
  ·conv=>whnf
   refine aj.int ?_;rw[he,F5 (.inl hi') hi hj,if_pos (by simpa using h4)]
  ·conv=>whnf
   refine aj.int ?_
   have:b.length<=a.length:=by simpa using h4
   rw[he,F5 (.inl hi') hi hj,if_neg (by omega),if_neg (by omega)]
theorem S.xg(x y:Int)(f:Bool):ak Tryz.prog 125 [.row 0 f (.ints [x,y])] (.int (if x≠0 then x else y)):=by
 refine ak.of Bd.xg (by simp) rfl rfl ?_;refine aA.same [3,6,7] (fun i:Nat=>[(8,.int i)]) (fun i=>i<=2/\(0<i->x=0)/\(1<i->y=0)) (fun i=>2-i) 0 rfl (by decide) rfl (fun _=>rfl) ⟨by omega,by omega,by omega⟩ ⟨⟨_,rfl,rfl⟩,trivial⟩ ?_;refine⟨rfl,?_⟩;rintro i ⟨hi,h0,h1⟩;refine⟨fun h3=>?_,fun h3=>?_⟩
 ·have hi':i<2:=by simp at h3; omega
  refine .mk (by simp only[Rw.rng,List.length_cons,List.length_nil]; omega) ?_;refine⟨fun h4=>?_,fun h4=>?_⟩
  ·conv=>whnf
   refine aj.int ?_;simp only[Int.toNat_natCast,bne_iff_ne,ne_eq] at h4 ⊢;by_cases e:i=0
   ·subst e; simp at h4 ⊢; simp[h4]
   ·have:i=1:=by omega
    subst this; simp at h4 ⊢; simp[h0]
  ·conv=>whnf
   refine .mk (by simp only[okI] at *; omega) ?_;refine⟨i+1,⟨by omega,fun _=>?_,fun hlt=>?_⟩,by omega,⟨⟨_,rfl,rfl⟩,trivial⟩,?_,rfl⟩
   ·by_cases e:i=0
    ·subst e; simpa using h4
    ·exact h0 (by omega)
   ·have:i=1:=by omega
    subst this; simpa using h4
   ·repeat' (first|exact trivial|exact⟨_,rfl,rfl⟩|constructor)
 ·have:i=2:=by simp at h3; omega
  subst this;refine aj.int ?_;simp[h0,h1]
theorem S.jd(a b:Elem)(ha:a.counts.length<2^40)(hb:b.counts.length<2^40):ak Tryz.prog 95 [.dat (.elem a),.dat (.elem b)] (.int (gV a b)):=by
 refine ak.of Bd.jd (by simp) rfl rfl ?_;refine ah.pure (S.cmp_Compare_int a.value b.value) rfl ?_;refine ah.pure (S.KQ a.counts b.counts ha hb) rfl ?_;refine ah.pure (S.xg _ _ true) rfl ?_;refine aj.int ?_;unfold gV U5;by_cases h6:a.value<b.value
 ·simp[h6]
 ·by_cases h7:b.value<a.value
  ·simp[h6,h7]
  ·simp[h6,h7]
theorem S.F6(a b:Elem)(ha:a.counts.length<2^40)(_hb:b.counts.length<2^40):ak Tryz.prog 70 [.dat (.elem a),.dat (.elem b)] (.bool (kK a b)):=by
 refine ak.of Bd.F6 (by simp) rfl rfl ?_;repeat(refine VC.mk (by first|exact id|exact fun h=>⟨h,h⟩|(intro h; rw[h]; rfl)) ?_)
 refine⟨fun h1=>?_,fun h1=>?_⟩
 ·conv=>whnf
  refine aj.bool ?_;by_cases hv:a.value=b.value
  ·have:nI a.counts b.counts=false:=by
    rw[Bool.eq_false_iff]; intro h; rw[nJ] at h; simp[hv,h.1] at h1
   simp[kK,this]
  ·simp[kK,hv]
 ·have h2:a.value=b.value/\a.counts.length=b.counts.length:=by
   by_cases hv:a.value=b.value
   ·simp[hv] at h1; exact⟨hv,by omega⟩
   ·simp[hv] at h1
  refine aA.same [2,3] (fun i:Nat=>[(5,.int i)]) (fun i=>i<=a.counts.length/\ ∀ j,j<i->a.counts.getD j 0<=b.counts.getD j 0) (fun i=>a.counts.length-i) 0 rfl (by decide) rfl (fun _=>rfl) ⟨by omega,fun j hj=>by omega⟩ ⟨⟨_,rfl,rfl⟩,trivial⟩ ?_;refine⟨rfl,?_⟩;rintro i ⟨hi,hall⟩;refine⟨fun h3=>?_,fun h3=>?_⟩
  ·have hi':i<a.counts.length:=by simpa using h3
   repeat(refine VC.mk (by simp only[Rw.rng] at *; omega) ?_)
   refine⟨fun h4=>?_,fun h4=>?_⟩
   ·conv=>whnf
    refine aj.bool ?_
    have:nI a.counts b.counts=false:=by
     rw[Bool.eq_false_iff]; intro h; rw[nJ] at h; have:=h.2 i hi'; simp only[Int.toNat_natCast,decide_eq_true_eq] at h4; omega
    simp[kK,this]
   ·conv=>whnf
    refine .mk (by simp only[okI] at *; omega) ?_;refine⟨i+1,⟨by omega,fun j hj=>?_⟩,by omega,⟨⟨_,rfl,rfl⟩,trivial⟩,?_,rfl⟩
    ·by_cases e:j=i
     ·subst e; simp only[Int.toNat_natCast,decide_eq_false_iff_not] at h4; omega
     ·exact hall j (by omega)
    ·repeat' (first|exact trivial|exact⟨_,rfl,rfl⟩|constructor)
  ·conv=>whnf
   refine aj.bool ?_;have hi':a.counts.length<=i:=by simpa using h3
   rw[Bool.eq_iff_iff]; simp only[kK,Bool.and_eq_true,beq_iff_eq,iff_true];exact⟨h2.1,nJ.2 ⟨h2.2,fun j hj=>hall j (by omega)⟩⟩
def dK(l:List Elem):Prop:= ∀ e∈l,e.counts.length<2^40
theorem dK.get{l:List Elem}(h:dK l)(i:Nat):(l.getD i default).counts.length<2^40:=by
 rw[List.getD_eq_getElem?_getD];cases e:l[i]? with
 |none=>show([]:List Int).length<2^40; decide
 |some x=>exact h x (List.mem_of_getElem? e)
theorem kS{α:Type}{l:List α}{p:α->Bool}{d:α}{i:Nat}(hi:i<l.length)(h:(l.take i).any p=false):(l.take (i+1)).any p=p (l.getD i d):=by
 rw[List.take_add_one,List.any_append,h,Bool.false_or];simp[hi]
theorem iQ{α:Type}{l:List α}{p:α->Bool}{d:α}{i:Nat}(hi:i<l.length)(h:p (l.getD i d)=true):l.any p=true:=by
 rw[List.any_eq_true];exact⟨l[i],List.getElem_mem hi,by simpa [hi] using h⟩
theorem S.jV(l:List Elem)(e:Elem)(f:Bool)(hl:l.length<2^40)(hs:dK l)(he:e.counts.length<2^40):ak Tryz.prog 34 [.row 3 f (.elems l),.dat (.elem e)] (.bool (l.any fun b=>kK b e)):=by
 refine ak.of Bd.jV (by simp) rfl rfl ?_;refine aA.same [3,7,8] (fun i:Nat=>[(9,.int i)]) (fun i=>i<=l.length/\(l.take i).any (fun b=>kK b e)=false) (fun i=>l.length-i) 0 rfl (by decide) rfl (fun _=>rfl) ⟨by omega,by simp⟩ ⟨⟨_,rfl,rfl⟩,trivial⟩ ?_;refine⟨rfl,?_⟩;rintro i ⟨hi,hall⟩;refine⟨fun h3=>?_,fun h3=>?_⟩
 ·have hi':i<l.length:=by simpa using h3
  refine .mk (by simp only[Rw.rng] at *; omega) ?_;refine ah.pure (S.wB _ _ (by simpa using hs.get i) he) rfl ?_;refine⟨fun h4=>?_,fun h4=>?_⟩
  ·conv=>whnf
   refine aj.bool ?_;simp only[Int.toNat_natCast] at h4;exact iQ hi' h4
  ·conv=>whnf
   refine .mk (by simp only[okI] at *; omega) ?_;conv=>whnf
   simp only[Int.toNat_natCast] at h4;refine⟨i+1,⟨by omega,by rw[kS hi' hall]; exact h4⟩,by omega,⟨⟨_,rfl,rfl⟩,trivial⟩,?_,rfl⟩;repeat' (first|exact trivial|exact⟨_,rfl,rfl⟩|constructor)
 ·conv=>whnf
  refine aj.bool ?_;have hi':l.length<=i:=by simpa using h3
  rw[List.take_of_length_le hi'] at hall; exact hall
theorem S.mW(l:List Elem)(e:Elem)(f:Bool)(hl:l.length<2^40)(hs:dK l)(he:e.counts.length<2^40):ak Tryz.prog 43 [.row 3 f (.elems l),.dat (.elem e)] (.bool (l.any fun b=>kK b e)):=by
 refine ak.of Bd.mW (by simp) rfl rfl ?_;refine aA.same [0,3] (fun i:Nat=>[(5,.int i)]) (fun i=>i<=l.length/\(l.take i).any (fun b=>kK b e)=false) (fun i=>l.length-i) 0 rfl (by decide) rfl (fun _=>rfl) ⟨by omega,by simp⟩ ⟨⟨_,rfl,rfl⟩,trivial⟩ ?_;refine⟨rfl,?_⟩;rintro i ⟨hi,hall⟩;refine⟨fun h3=>?_,fun h3=>?_⟩
 ·have hi':i<l.length:=by simpa using h3
  refine .mk (by simp only[Rw.rng] at *; omega) ?_;refine ah.pure (S.F6 _ _ (by simpa using hs.get i) he) rfl ?_;refine⟨fun h4=>?_,fun h4=>?_⟩
  ·conv=>whnf
   refine aj.bool ?_;simp only[Int.toNat_natCast] at h4;exact iQ hi' h4
  ·conv=>whnf
   refine .mk (by simp only[okI] at *; omega) ?_;conv=>whnf
   simp only[Int.toNat_natCast] at h4;refine⟨i+1,⟨by omega,by rw[kS hi' hall]; exact h4⟩,by omega,⟨⟨_,rfl,rfl⟩,trivial⟩,?_,rfl⟩;repeat' (first|exact trivial|exact⟨_,rfl,rfl⟩|constructor)
 ·conv=>whnf
  refine aj.bool ?_;have hi':l.length<=i:=by simpa using h3
  rw[List.take_of_length_le hi'] at hall; exact hall
theorem S.zk(a b:List Int)(ha:a.length<2^40)(hb:b.length<2^40):ak Tryz.prog 91 [.row 0 false (.ints a),.row 0 false (.ints b)] (.int (cmpL a b)):=by
 refine ak.of Bd.zk (by simp) rfl rfl ?_;refine aA.same [0,1] (fun i:Nat=>[(5,.int i)]) (fun i=>i<=a.length/\i<=b.length/\cmpL a b=cmpL (a.drop i) (b.drop i)) (fun i=>a.length-i) 0 rfl (by decide) rfl (fun _=>rfl) ⟨by omega,by omega,rfl⟩ ⟨⟨_,rfl,rfl⟩,trivial⟩ ?_;refine⟨rfl,?_⟩;rintro i ⟨hi,hj,he⟩;repeat(refine VC.mk (by first|exact id|exact fun h=>⟨h,h⟩) ?_)
 refine⟨fun h3=>?_,fun h3=>?_⟩
 ·have hi':i<a.length/\i<b.length:=by
   by_cases h:i<a.length
   ·simp[h] at h3; exact⟨h,by omega⟩
   ·simp[h] at h3
  rw[N8 hi'.1 hi'.2] at he;obtain⟨hi1,hi2⟩:=hi';repeat(refine VC.mk (by simp only[Rw.rng] at *; omega) ?_)
  refine⟨fun h5=>?_,fun h5=>?_⟩
  ·conv=>whnf
   refine aj.int ?_;simp only[Int.toNat_natCast,decide_eq_true_eq] at h5;rw[he,if_pos h5]
  ·conv=>whnf
   repeat(refine VC.mk (by simp only[Rw.rng] at *; omega) ?_)
   simp only[Int.toNat_natCast,decide_eq_false_iff_not] at h5;refine⟨fun h6=>?_,fun h6=>?_⟩
   ·conv=>whnf
    refine aj.int ?_;simp only[Int.toNat_natCast,decide_eq_true_eq] at h6;rw[he,if_neg h5,if_pos h6]
   ·conv=>whnf
    refine .mk (by simp only[okI] at *; omega) ?_;conv=>whnf
    simp only[Int.toNat_natCast,decide_eq_false_iff_not] at h6;refine⟨i+1,⟨by omega,by omega,by rw[he,if_neg h5,if_neg h6]⟩,by omega,⟨⟨_,rfl,rfl⟩,trivial⟩,?_,rfl⟩;repeat' (first|exact trivial|exact⟨_,rfl,rfl⟩|constructor)
 ·have hi':a.length<=i\/b.length<=i:=by
   by_cases h:i<a.length
   ·simp[h] at h3; exact .inr (by omega)
   ·exact .inl (by omega)
  have hx:=F5 hi' hi hj;rw[<- he] at hx;refine⟨fun h4=>?_,fun h4=>?_⟩
  ·conv=>whnf
   refine aj.int ?_;rw[hx,if_pos (by simpa using h4)]
  ·conv=>whnf
   have h5: ¬ a.length<b.length:=by simpa using h4
   refine⟨fun h6=>?_,fun h6=>?_⟩
   ·conv=>whnf
    refine aj.int ?_;rw[hx,if_neg h5,if_pos (by simpa using h6)]
   ·conv=>whnf
    refine aj.int ?_;rw[hx,if_neg h5,if_neg (by simpa using h6)]
theorem S.o9(a b:Elem)(ha:a.counts.length<2^40)(hb:b.counts.length<2^40):ak Tryz.prog 56 [.dat (.elem a),.dat (.elem b)] (.int (gV a b)):=by
 refine ak.of Bd.o9 (by simp) rfl rfl ?_;refine⟨fun h1=>?_,fun h1=>?_⟩
 ·conv=>whnf
  exact aj.int (by simp only[decide_eq_true_eq] at h1; simp[gV,h1])
 ·conv=>whnf
  simp only[decide_eq_false_iff_not] at h1;refine⟨fun h2=>?_,fun h2=>?_⟩
  ·conv=>whnf
   exact aj.int (by simp only[decide_eq_true_eq] at h2; simp[gV,h1,h2])
  ·simp only[decide_eq_false_iff_not] at h2;refine ah.pure (S.zk a.counts b.counts ha hb) rfl ?_;exact aj.int (by simp[gV,h1,h2])
theorem cmpL_eq: ∀ {a b:List Int},cmpL a b=0↔a=b:=by
 intro a;induction a with
 |nil=>intro b; cases b<;>simp[cmpL]
 |cons x a ih =>
  intro b;cases b with
  |nil=>simp[cmpL]
  |cons y b =>
   simp only[cmpL];split
   ·simp; omega
   ·split
    ·simp; omega
    ·rw[ih]; simp; intro _; omega
theorem jK{a b:Elem}:gV a b=0↔a=b:=by
 obtain⟨v,c⟩:=a; obtain⟨w,d⟩:=b;simp only[gV];split
 ·simp; omega
 ·split
  ·simp; omega
  ·rw[cmpL_eq]; simp; intro _; omega
theorem S.uM(a b:List Elem)(f g:Bool)(ha:a.length<2^40)(hb:b.length<2^40)(sa:dK a)(sb:dK b):ak Tryz.prog 24 [.row 3 f (.elems a),.row 3 g (.elems b)] (.bool (decide (a=b))):=by
 refine ak.of Bd.uM (by simp) rfl rfl ?_;refine⟨fun h1=>?_,fun h1=>?_⟩
 ·conv=>whnf
  refine aj.bool ?_;refine decide_eq_false ?_;simp at h1;rintro rfl; exact h1 rfl
 ·have hlen:a.length=b.length:=by simp at h1; omega
  refine aA.same [0,1] (fun i:Nat=>[(5,.int i)]) (fun i=>i<=a.length/\a.take i=b.take i) (fun i=>a.length-i) 0 rfl (by decide) rfl (fun _=>rfl) ⟨by omega,by simp⟩ ⟨⟨_,rfl,rfl⟩,trivial⟩ ?_;refine⟨rfl,?_⟩;rintro i ⟨hi,hall⟩;refine⟨fun h3=>?_,fun h3=>?_⟩
  ·have hi':i<a.length:=by simpa using h3
   repeat(refine VC.mk (by simp only[Rw.rng] at *; omega) ?_)
   refine ah.pure (S.o9 _ _ (by simpa using sa.get i) (by simpa using sb.get i)) rfl ?_;refine⟨fun h4=>?_,fun h4=>?_⟩
   ·conv=>whnf
    refine aj.bool ?_;refine decide_eq_false ?_;rintro rfl;simp only[Int.toNat_natCast,bne_iff_ne,ne_eq] at h4;exact h4 (jK.2 rfl)
   ·conv=>whnf
    refine .mk (by simp only[okI] at *; omega) ?_;conv=>whnf
    simp only[Int.toNat_natCast,bne_eq_false_iff_eq] at h4;rw[jK] at h4;refine⟨i+1,⟨by omega,?_⟩,by omega,⟨⟨_,rfl,rfl⟩,trivial⟩,?_,rfl⟩
    ·rw[List.take_add_one,List.take_add_one,hall]
     congr 1
     have hb':i<b.length:=by omega
     simp only[List.getD_eq_getElem?_getD,List.getElem?_eq_getElem hi',List.getElem?_eq_getElem hb',Option.getD_some] at h4;simp[hi',hb',h4]
    ·repeat' (first|exact trivial|exact⟨_,rfl,rfl⟩|constructor)
  ·conv=>whnf
   refine aj.bool ?_;have hi':a.length<=i:=by simpa using h3
   rw[List.take_of_length_le hi',List.take_of_length_le (by omega)] at hall;symm; simpa using hall
def AU(n:Int):Bool:=decide (0<=n)&&decide (n<=1048576)
theorem S.lq(l:List Int)(f:Bool)(hl:l.length<2^40):ak Tryz.prog 71 [.row 0 f (.ints l)] (.bool (l.all AU)):=by
 refine ak.of Bd.lq (by simp) rfl rfl ?_;refine aA.same [5,6] (fun i:Nat=>[(7,.int i)]) (fun i=>i<=l.length/\(l.take i).all AU=true) (fun i=>l.length-i) 0 rfl (by decide) rfl (fun _=>rfl) ⟨by omega,by simp⟩ ⟨⟨_,rfl,rfl⟩,trivial⟩ ?_;refine⟨rfl,?_⟩;rintro i ⟨hi,hall⟩;refine⟨fun h3=>?_,fun h3=>?_⟩
 ·have hi':i<l.length:=by simpa using h3
  repeat(refine VC.mk (by first|exact id|(intro h; rw[h]; rfl)|(simp only[Rw.rng] at *; omega)) ?_)
  refine⟨fun h4=>?_,fun h4=>?_⟩
  ·conv=>whnf
   refine aj.bool ?_;simp only[Int.toNat_natCast] at h4;have h5:AU (l.getD i 0)=false:=by
    have key: ∀ x:Int,(decide (x<0)||decide (1048576<x))=true->AU x=false:=by
     intro x h4;unfold AU;by_cases h0:x<0
     ·simp; omega
     ·simp[h0] at h4; simp; omega
    exact key _ h4
   rw[Bool.eq_false_iff];intro h;rw[List.all_eq_true] at h;have:=h l[i] (List.getElem_mem hi');rw[show l.getD i 0=l[i] by simp[hi']] at h5;rw[this] at h5; cases h5
  ·conv=>whnf
   refine .mk (by simp only[okI] at *; omega) ?_;conv=>whnf
   simp only[Int.toNat_natCast] at h4;refine⟨i+1,⟨by omega,?_⟩,by omega,⟨⟨_,rfl,rfl⟩,trivial⟩,?_,rfl⟩
   ·have h5:AU (l.getD i 0)=true:=by
     have key: ∀ x:Int,(decide (x<0)||decide (1048576<x))=false->AU x=true:=by
      intro x h4;unfold AU;by_cases h0:x<0
      ·simp[h0] at h4
      ·simp[h0] at h4; simp; omega
     exact key _ h4
    rw[List.take_add_one,List.all_append,hall];simpa [hi'] using h5
   ·repeat' (first|exact trivial|exact⟨_,rfl,rfl⟩|constructor)
 ·conv=>whnf
  refine aj.bool ?_;have hi':l.length<=i:=by simpa using h3
  rw[List.take_of_length_le hi'] at hall; exact hall
def dZ(e:Elem):Int:=if 6<e.counts.length then 0 else if e.counts.all AU=true then e.counts.sum else 0
theorem Ig: ∀ {l:List Int},l.all AU=true->0<=l.sum/\l.sum<=l.length*1048576:=by
 intro l;induction l with
 |nil=>intro _; simp
 |cons x l ih =>
  intro h;simp only[List.all_cons,Bool.and_eq_true,AU,decide_eq_true_eq] at h;have:=ih h.2;simp only[List.sum_cons,List.length_cons];omega
theorem Rk{l:List Int}(h:l.all AU=true)(i:Nat):(l.take i).all AU=true:=by
 rw[List.all_eq_true] at h ⊢;exact fun x hx=>h x (List.mem_of_mem_take hx)
theorem aay{l:List Int}{i:Nat}(hi:i<l.length):(l.take (i+1)).sum=(l.take i).sum+l.getD i 0:=by
 rw[List.take_add_one,List.sum_append]; simp[hi]
theorem S.o7(e:Elem)(hl:e.counts.length<2^40):ak Tryz.prog 59 [.dat (.elem e)] (.int (dZ e)):=by
 refine ak.of Bd.o7 (by simp) rfl rfl ?_;repeat(refine VC.mk id ?_)
 refine ah.ig (fun _=>S.lq e.counts false hl) rfl ?_;repeat(refine VC.mk (by first|exact id|(intro h; rw[h]; rfl)) ?_)
 refine⟨fun h1=>?_,fun h1=>?_⟩
 ·conv=>whnf
  refine aj.int ?_;unfold dZ;by_cases h:6<e.counts.length
  ·rw[if_pos h]
  ·rw[if_neg h,if_neg];have h': ¬ (6:Int)<e.counts.length:=by omega
   simp[h'] at h1;intro hh;rw[List.all_eq_true] at hh;obtain⟨x,hx,hx'⟩:=h1;exact absurd (hh x hx) (by simp[hx'])
 ·have h2: ¬ 6<e.counts.length/\e.counts.all AU=true:=by
   by_cases h:(6:Int)<e.counts.length
   ·simp[h] at h1
   ·simp[h] at h1;exact⟨by omega,by rw[List.all_eq_true]; exact h1⟩
  refine aA.same [17,18] (fun i:Nat=>[(19,.int i),(3,.int (e.counts.take i).sum)]) (fun i=>i<=e.counts.length) (fun i=>e.counts.length-i) 0 rfl (by decide) rfl (fun _=>rfl) (by omega) ⟨⟨_,rfl,rfl⟩,⟨_,rfl,rfl⟩,trivial⟩ ?_;refine⟨rfl,?_⟩;rintro i hi;have hb:=Ig (Rk h2.2 i);have hb':((e.counts.take i).length:Int)<=6:=by simp; omega
  refine⟨fun h3=>?_,fun h3=>?_⟩
  ·have hi':i<e.counts.length:=by simpa using h3
   have hs:=aay hi';have hc:=Ig (Rk h2.2 (i+1));have hc':((e.counts.take (i+1)).length:Int)<=6:=by simp; omega
   repeat(refine VC.mk (by first|(simp only[okI,Int.toNat_natCast] at *; rw[<- hs]; omega)|(simp only[okI,Rw.rng] at *; omega)) ?_)
   refine⟨i+1,by omega,by omega,⟨⟨_,rfl,rfl⟩,⟨_,rfl,?_⟩,trivial⟩,?_,rfl⟩
   ·rw[hs]; simp[V.aH,tY]
   ·repeat' (first|exact trivial|exact⟨_,rfl,rfl⟩|constructor)
  ·conv=>whnf
   refine aj.int ?_;have hi':e.counts.length<=i:=by simpa using h3
   rw[List.take_of_length_le hi'];simp[dZ,h2.1,h2.2]
def yO(x y:Elem):Bool:=kK y x&&(gV y x !=0)
theorem S.lK(x y:Elem)(d:Bool)(hx:x.counts.length<2^40)(hy:y.counts.length<2^40):ak Tryz.prog 61 [.agg [.int x.value,.row 0 false (.ints x.counts),.bool d],.dat (.elem y)] (.bool (yO x y)):=by
 refine ak.of Bd.lK (by simp) rfl rfl ?_;refine ah.pure (S.wB y x hy hx) rfl ?_;repeat(refine VC.mk (by first|exact id|exact fun h=>⟨h,h⟩) ?_)
 refine ah.ig (fun _=>S.jd y x hy hx) rfl ?_;repeat(refine VC.mk id ?_)
 refine aj.bool ?_;cases h:kK y x<;>simp[yO,h]
def ac6(p:Elem->Bool)(l:List Elem):Int:=if l.any p=true then(l.findIdx p:Int) else -1
theorem Nr{p:Elem->Bool}{l:List Elem}{i:Nat}(hi:i<l.length)(h0:(l.take i).any p=false)(h1:p (l.getD i default)=true):l.findIdx p=i:=by
 rw[List.findIdx_eq hi];refine⟨by simpa [hi] using h1,fun j hj=>?_⟩;rw[List.any_eq_false] at h0;have:=h0 l[j] (by rw[List.mem_take_iff_getElem]; exact⟨j,by omega,rfl⟩);simpa using this
theorem S.U6(l:List Elem)(x:Elem)(d f:Bool)(hl:l.length<2^40)(hs:dK l)(hx:x.counts.length<2^40) :
  ak Tryz.prog 97 [.row 3 f (.elems l),.fn (61+4096) [.int x.value,.row 0 false (.ints x.counts),.bool d]] (.int (ac6 (yO x) l)):=by
 refine ak.of Bd.fA (by simp) rfl rfl ?_;refine aA.same [0,1,6,7] (fun i:Nat=>[(8,.int i)]) (fun i=>i<=l.length/\(l.take i).any (yO x)=false) (fun i=>l.length-i) 0 rfl (by decide) rfl (fun _=>rfl) ⟨by omega,by simp⟩ ⟨⟨_,rfl,rfl⟩,trivial⟩ ?_;refine⟨rfl,?_⟩;rintro i ⟨hi,hall⟩;refine⟨fun h3=>?_,fun h3=>?_⟩
 ·have hi':i<l.length:=by simpa using h3
  refine .mk (by simp only[Rw.rng] at *; omega) ?_;refine ah.pure (S.lK x (l.getD i default) d hx (hs.get i)) rfl ?_;refine⟨fun h4=>?_,fun h4=>?_⟩
  ·conv=>whnf
   refine aj.int ?_;rw[ac6,if_pos (iQ hi' h4),Nr hi' hall h4]
  ·conv=>whnf
   refine .mk (by simp only[okI] at *; omega) ?_;refine⟨i+1,⟨by omega,by rw[kS hi' hall]; exact h4⟩,by omega,⟨⟨_,rfl,rfl⟩,trivial⟩,?_,rfl⟩;repeat' (first|exact trivial|exact⟨_,rfl,rfl⟩|constructor)
 ·conv=>whnf
  refine aj.int ?_;have hi':l.length<=i:=by simpa using h3
  rw[List.take_of_length_le hi'] at hall;rw[ac6,hall]; rfl
theorem S.Ns(l:List Elem)(x:Elem)(d f:Bool)(hl:l.length<2^40)(hs:dK l)(hx:x.counts.length<2^40) :
  ak Tryz.prog 62 [.row 3 f (.elems l),.fn (61+4096) [.int x.value,.row 0 false (.ints x.counts),.bool d]] (.bool (l.any (yO x))):=by
 refine ak.of Bd.eF (by simp) rfl rfl ?_;refine ah.pure (S.U6 l x d f hl hs hx) rfl ?_;refine aj.bool ?_;unfold ac6;cases h:l.any (yO x)
 ·simp
 ·simp
theorem S.oh(a b:Elem)(ha:a.counts.length<2^40)(hb:b.counts.length<2^40):ak Tryz.prog 100 [.dat (.elem a),.dat (.elem b)] (.bool (decide (a=b))):=by
 refine ak.of Bd.oh (by simp) rfl rfl ?_;refine ah.pure (S.jd a b ha hb) rfl ?_;refine aj.bool ?_;rw[Bool.eq_iff_iff]; simp only[decide_eq_true_eq,beq_iff_eq];exact jK.symm
theorem aj.elem{e:Elem}{n ty:Nat}{h:Hz}(q:h.get n=some (.row ty 0 (.ints e.counts) [])):aj (.dat (.elem e)) (.agg [.int e.value,.own n]) h:=⟨by
 show T.sub (fun _=>True) h.ay (gq e) (.agg [.int e.value,.own n]);simp only[gq,T.sub,T.dA,and_true];refine⟨trivial,trivial,trivial,?_,by decide,ty,?_⟩
 ·rw[fZ]; intro t ht; obtain⟨x,_,rfl⟩:=List.mem_map.1 ht; rfl
 ·have:=aN q; simpa [OV.au,Rw.aU,V.aU] using this⟩
theorem S.BQ(e:Elem)(he:e.counts.length<2^40):ak Tryz.prog 141 [.dat (.elem e)] (.dat (.elem e)):=by
 refine ak.of Bd.BQ (by simp) rfl rfl ?_;refine .mk (by simp only[jH,jP,Rw.len]; omega) ?_;exact aj.elem (ty:=3) rfl
theorem S.kV(e:Elem)(d:Bool)(he:e.counts.length<2^40):ak Tryz.prog 63 [.agg [.int e.value,.row 0 false (.ints e.counts),.bool d]] (.dat (.elem e)):=by
 refine ak.of Bd.kV (by simp) rfl rfl ?_;refine .mk (by simp only[jH,jP,Rw.len]; omega) ?_;exact aj.elem (ty:=3) rfl
theorem ah.lend{P:Program}{dr:Bool}{f:FuncId}{args args':List V}{res:V}{h:Hz}{n:Nat}{K:V->Hz->Prop}{KW:Nat->V->Hz->Prop}(S:ak P f args' res)(hs:T.dA (fun _=>True) h.ay (V.aU args') (V.aU args))(hh:res.aH.hard=true)(hr:res.free=true)(hK:K res h):ah P dr none f args h n K KW :=
 ⟨.inl (BR.lend S hs hh (fun _ e=>by cases e) ⟨res,h,rfl,rfl,fun _=>⟨rfl,V.pq res hr⟩,hK⟩)⟩
theorem EK(l:List Elem):T.bW (l.map gq)=true:=by
 rw[fZ]; intro t ht; obtain⟨x,_,rfl⟩:=List.mem_map.1 ht; rfl
theorem dP.of_eq{a b:List T}(h:a=b):dP a b:=by subst h; exact .refl _
theorem ah.aeU{P:Program}{dr b:Bool}{f:FuncId}{args args':List V}{res:V}{h:Hz}{n:Nat}{K:V->Hz->Prop}{KW:Nat->V->Hz->Prop}(S:b=true->ak P f args' res)(hs:b=true->T.dA (fun _=>True) h.ay (V.aU args') (V.aU args))(hh:res.aH.hard=true)(hr:res.free=true)(hK:K res h):ah P dr (some b) f args h n K KW :=
 ⟨.inl (.inl ⟨res,fun e=>BR.lend (S e) (hs e) hh (fun _ e=>by cases e) ⟨rfl,rfl⟩,hr,hK⟩)⟩
abbrev aZ(l:List Elem):OV:=.row 35 3 (.elems l) []
theorem BP{h:Hz}{j:Nat}{l:List Elem}{Z:Nat->Prop}(hz:Z j)(q:h.get j=some (aZ l)):T.sub Z h.ay (V.row 3 false (.elems l)).aH (V.own j).aH:=by
 show T.sub Z h.ay (.sl 3 false (l.map gq)) (.own j);simp only[T.sub];refine⟨trivial,hz,EK l,by decide,35,?_⟩;have:=aN q; simpa [OV.au,Rw.aU,V.aU] using this
theorem aj.aal{h:Hz}{j:Nat}{l:List Elem}(q:h.get j=some (aZ l)):aj (.row 3 false (.elems l)) (.own j) h:=⟨BP trivial q⟩
def vJ(l:List Elem)(e:Elem):Nat->Nat
 |0=>0
 |i+1=>if 0<gV (l.getD i default) e then vJ l e i else i+1
def yM(l:List Elem)(e:Elem):Bool:=decide (0<vJ l e l.length)&&decide (gV (l.getD (vJ l e l.length-1) default) e=0)
def oz(l:List Elem)(e:Elem):List Elem:=if yM l e=true then l else l.take (vJ l e l.length)++e::l.drop (vJ l e l.length)
theorem WQ{l:List Elem}{e:Elem}: ∀ i,vJ l e i<=i:=by
 intro i;induction i with
 |zero=>exact Nat.le_refl _
 |succ i ih=>simp only[vJ]; split<;>omega
theorem aaz(i:Nat):((i:Int)-1).toNat=i-1:=by omega
theorem gtP{l:List Elem}{e:Elem}{i:Nat}:(decide ((0:Int)<i)&&decide (0<gV (l.getD ((i:Int)-1).toNat default) e))=true↔0<i/\0<gV (l.getD (i-1) default) e:=by
 rw[aaz,Bool.and_eq_true,decide_eq_true_eq,decide_eq_true_eq];exact⟨fun h=>⟨by omega,h.2⟩,fun h=>⟨by omega,h.2⟩⟩
theorem eqP{l:List Elem}{e:Elem}{i:Nat}:(decide ((0:Int)<i)&&(gV (l.getD ((i:Int)-1).toNat default) e==0))=(decide (0<i)&&decide (gV (l.getD (i-1) default) e=0)):=by
 rw[aaz];have h1:decide ((0:Int)<i)=decide (0<i):=decide_eq_decide.2 (by omega);rw[h1]; rfl
abbrev h1(l:List Elem):Hz:=[(0,some (aZ l))]
def UK(l:List Elem)(k:Nat):List Elem:=l.take k++l.getD k default::l.drop k
theorem WR(l:List Elem)(k:Nat):(UK l k).length=l.length+1:=by simp[UK]; omega
theorem aaA{l:List Elem}{k:Nat}(h:k<=l.length)(x:Elem):(UK l k).set k x=l.take k++x::l.drop k:=by
 unfold UK;rw[List.set_append_right _ _ (by simp; omega)];simp[Nat.min_eq_left h]
theorem ac7{l:List Elem}{k:Nat}(h:k<l.length):(UK l (k+1)).getD k default=l.getD k default:=by
 unfold UK;rw[List.getD_eq_getElem?_getD,List.getElem?_append_left (by simp; omega),List.getElem?_take_of_lt (by omega),List.getD_eq_getElem?_getD]
theorem aaB{l:List Elem}{k:Nat}(h:k<l.length):(UK l (k+1)).set (k+1) ((UK l (k+1)).getD k default)=UK l k:=by
 rw[aaA (by omega),ac7 h];unfold UK;rw[List.take_add_one,List.append_assoc,bY default h]
 congr 1
 simp[h]
theorem zero_sub(l:List Elem):dP (aZ (UK l l.length)).au.l (OV.row 35 3 (.elems l) [V.agg (Z8 [T.int 0,T.nil])]).au.l:=by
 intro Z h;have e:(aZ (UK l l.length)).au.l=l.map gq++[gq default]:=by
  simp[OV.au,Rw.aU,V.aU,UK]
 rw[e];refine yx (dJ _) ?_;refine⟨?_,trivial⟩;show T.sub Z h (.agg [.int 0,.sl 0 false []]) (.agg [.int 0,.sl 0 true []]);simp[T.sub,T.dA]
theorem U4{l:List Elem}{n:Nat}(hn:0<n):Hz.get n (h1 l)=none:=by
 show(bif Nat.beq 0 n then some (aZ l) else none)=none;rw[agL,if_neg (by omega)]
theorem S.qX(l:List Elem)(e:Elem)(n:Nat)(hn:0<n)(hl:l.length<2^30)(hs:dK l)(he:e.counts.length<2^30) :
  aP Tryz.prog 124 (V.aU [.own 0,.dat (.elem e)]) (h1 l).ay n (fun t hp=>(yM l e=true/\t= .own 0/\hp=(h1 l).ay)\/(yM l e=false/\t= .own n/\hp=Hz.ay [(n,some (aZ (oz l e)))])):=by
 refine oL.of (nx:=1) Bd.qX (by simp) ?_ rfl rfl ?_
 ·cases h:yM l e
  ·exact⟨_,_,.inr ⟨rfl,rfl,rfl⟩⟩
  ·exact⟨_,_,.inl ⟨rfl,rfl,rfl⟩⟩
 refine aA.same [0,3] (fun i:Nat=>[(5,.int i)]) (fun i=>i<=l.length/\vJ l e l.length=vJ l e i) (fun i=>i) l.length rfl (by decide) rfl (fun _=>rfl) ⟨by omega,rfl⟩ ⟨⟨_,rfl,rfl⟩,trivial⟩ ?_;refine⟨rfl,?_⟩;rintro i ⟨hi,hpos⟩;repeat(refine VC.mk (by first|exact fun h=>⟨h,h⟩|(intro h; (repeat' apply And.intro)<;>first|exact h|omega|(simp only[Rw.qY]; omega)|(simp only[Rw.rng]; omega))|(simp only[Rw.rng] at *; first|omega|(simp_all; omega))) ?_)
 refine ah.ig (fun _=>S.o9 _ _ (by first|exact hs.get _|(have:=hs.get ((i:Int)-1).toNat; omega)) (by omega)) rfl ?_;repeat(refine VC.mk id ?_)
 refine⟨fun h3=>?_,fun h3=>?_⟩
 ·rw[gtP] at h3;obtain⟨h4,h5⟩:=h3;refine .mk (by simp only[okI] at *; first|omega|(simp_all; omega)) ?_;refine⟨i-1,⟨by omega,?_⟩,by omega,⟨⟨_,rfl,?_⟩,trivial⟩,?_,rfl⟩
  ·rw[hpos];obtain⟨k,rfl⟩: ∃ k,i=k+1:=⟨i-1,by omega⟩
   simp only[vJ,Nat.add_sub_cancel] at h5 ⊢;rw[if_pos h5]
  ·show T.int ((i-1:Nat):Int)=T.int ((i:Int)-1)
   congr 2; omega
  ·repeat' (first|exact trivial|exact⟨_,rfl,rfl⟩|constructor)
 ·rw[Bool.eq_false_iff,ne_eq,gtP] at h3;have hp:vJ l e l.length=i:=by
   rw[hpos];cases i with
   |zero=>rfl
   |succ k=>simp only[vJ]; rw[if_neg (fun h=>h3 ⟨by omega,by simpa using h⟩)]
  clear hpos h3;subst hp;repeat(refine VC.mk (by first|exact fun h=>⟨h,h⟩|(intro h; (repeat' apply And.intro)<;>first|exact h|omega|(simp only[Rw.qY]; omega)|(simp only[Rw.rng]; omega))|(simp only[Rw.rng] at *; first|omega|(simp_all; omega))) ?_)
  refine ah.ig (fun _=>S.o9 _ _ (hs.get _) (by omega)) rfl ?_;repeat(refine VC.mk id ?_)
  rw[eqP];refine⟨fun h3=>?_,fun h3=>?_⟩
  ·conv=>whnf
   refine iP.one (c:=0) (j:=0) (o:=aZ l) (t:=.own 0) rfl rfl rfl (fun _=>rfl) (.inl rfl) rfl (.eq rfl) (.inl ⟨h3,rfl,rfl⟩)
  ·conv=>whnf
   repeat(refine VC.mk (by first|(show(l.length+(0+1))*32<=140737488355328/\l.length+(0+1)<=1152921504606846976; omega)|(show okI ((l.length:Int)+((0+1:Nat):Int)-1); simp only[okI]; omega)) ?_)
   refine aA.objs 3 [3,5] (fun k:Nat=>[(0,.own 2),(6,.int k)]) (fun k=>[(1,.box 35 3 (.dat (.elem e))),(2,aZ (UK l k))]) (fun k=>vJ l e l.length<=k/\k<=l.length) (fun k=>k) l.length [1,33] rfl (by decide) (fun _=>rfl) ⟨hi,Nat.le_refl _⟩ ?_ ?_ ?_
   ·refine⟨⟨_,rfl,.eq rfl⟩,⟨_,rfl,.eq ?_⟩,trivial⟩;show T.int (l.length:Int)=T.int ((l.length:Int)+((0+1:Nat):Int)-1)
    congr 2; omega
   ·refine⟨dL rfl rfl,⟨rfl,nofun,rfl,rfl,rfl,_,rfl,rfl,rfl,zero_sub l⟩,trivial⟩
   ·conv=>whnf
    refine⟨(sR rfl),rfl,?_⟩;rintro k ⟨hk1,hk2⟩;refine⟨fun h4=>?_,fun h4=>?_⟩
    ·have h5:vJ l e l.length<k:=by simpa using h4
     obtain⟨k,rfl⟩: ∃ j,k=j+1:=⟨k-1,by omega⟩
     have e1:((((k+1:Nat):Int))-1).toNat=k:=by omega
     have e2:(((k+1:Nat):Int)).toNat=k+1:=rfl;repeat(refine VC.mk (by simp only[Rw.rng,WR,okI]; omega) ?_)
     refine⟨k,[1,2],⟨by omega,by omega⟩,by omega,⟨⟨_,rfl,.eq rfl⟩,⟨_,rfl,.eq ?_⟩,trivial⟩,(sR rfl),dL rfl rfl,⟨rfl,nofun,rfl,rfl,rfl,_,rfl,rfl,rfl,?_⟩,trivial⟩
     ·show T.int (k:Int)=T.int (((k+1:Nat):Int)-1)
      congr 2; omega
     ·rw[e1,e2,aaB (by omega)]; exact .refl _
    ·have hk:k=vJ l e l.length:=by
      have: ¬ vJ l e l.length<k:=by simpa using h4
      omega
     clear h4;refine ah.pure (S.BQ e (by omega)) rfl ?_;repeat(refine VC.mk (by simp only[Rw.rng,WR]; omega) ?_)
     refine iP.one (c:=n) (j:=2) (o:=aZ ((UK l k).set (vJ l e l.length:Int).toNat e)) (t:=.own n) rfl rfl rfl ?_ (.inr rfl) rfl (.eq rfl) (.inr ⟨h3,rfl,?_⟩)
     ·rw[U4 hn]; intro h; cases h
     ·have:(UK l k).set (vJ l e l.length:Int).toNat e=oz l e:=by
       rw[oz,if_neg (by rw[show yM l e=false from h3]; simp)];rw[hk]; exact aaA (by omega) e
      rw[this]
def KR(l:List Elem):List Elem:=l.foldl oz []
def fH(out:List Elem)(x:Elem):List Elem:=if(out.any fun b=>kK b x)=true then out else out++[x]
def yP(l:List Elem):List Elem:=(KR l).foldl fH []
theorem Rl{l:List Elem}{e:Elem}:(oz l e).length<=l.length+1:=by
 unfold oz; split
 ·omega
 ·simp; have:=WQ (l:=l) (e:=e) l.length; omega
theorem aaC{l:List Elem}{e x:Elem}(h:x∈oz l e):x=e\/x∈l:=by
 unfold oz at h; split at h
 ·exact .inr h
 ·simp only[List.mem_append,List.mem_cons] at h;rcases h with h|h|h
  ·exact .inr (List.mem_of_mem_take h)
  ·exact .inl h
  ·exact .inr (List.mem_of_mem_drop h)
theorem ru{α β:Type}(f:β->α->β)(b:β){l:List α}{i:Nat}(d:α)(h:i<l.length):(l.take (i+1)).foldl f b=f ((l.take i).foldl f b) (l.getD i d):=by
 rw[List.take_add_one,List.foldl_append]; simp[h]
theorem Rn: ∀ (l acc:List Elem),(l.foldl oz acc).length<=acc.length+l.length:=by
 intro l;induction l with
 |nil=>intro acc; simp
 |cons x l ih=>intro acc; simp only[List.foldl_cons,List.length_cons]; have:=ih (oz acc x); have:=Rl (l:=acc) (e:=x); omega
theorem KT: ∀ (l acc:List Elem) (x:Elem),x∈l.foldl oz acc->x∈acc\/x∈l:=by
 intro l;induction l with
 |nil=>intro acc x h; exact .inl h
 |cons y l ih =>
  intro acc x h;simp only[List.foldl_cons] at h;rcases ih _ _ h with h|h
  ·rcases aaC h with h|h
   ·exact .inr (by simp[h])
   ·exact .inl h
  ·exact .inr (by simp[h])
theorem Yl{l:List Elem}{e:Elem}:(fH l e).length<=l.length+1:=by
 unfold fH; split
 ·omega
 ·simp
theorem KO: ∀ (l acc:List Elem),(l.foldl fH acc).length<=acc.length+l.length:=by
 intro l;induction l with
 |nil=>intro acc; simp
 |cons x l ih=>intro acc; simp only[List.foldl_cons,List.length_cons]; have:=ih (fH acc x); have:=Yl (l:=acc) (e:=x); omega
theorem aaD: ∀ (l acc:List Elem) (x:Elem),x∈l.foldl fH acc->x∈acc\/x∈l:=by
 intro l;induction l with
 |nil=>intro acc x h; exact .inl h
 |cons y l ih =>
  intro acc x h;simp only[List.foldl_cons] at h;rcases ih _ _ h with h|h
  ·unfold fH at h; split at h
   ·exact .inl h
   ·simp only[List.mem_append,List.mem_singleton] at h;rcases h with h|h
    ·exact .inl h
    ·exact .inr (by simp[h])
  ·exact .inr (by simp[h])
theorem N9{l:List Elem}(h:dK l)(i:Nat):dK ((l.take i).foldl oz []):=fun x hx=>by
 rcases KT _ _ _ hx with h'|h'
 ·cases h'
 ·exact h x (List.mem_of_mem_take h')
theorem zY{l:List Elem}(h:dK l)(i:Nat):dK ((l.take i).foldl fH []):=fun x hx=>by
 rcases aaD _ _ _ hx with h'|h'
 ·cases h'
 ·exact h x (List.mem_of_mem_take h')
def vH(l:List Elem):Prop:= ∀ e∈l,e.counts.length<2^30
theorem vH.e{l:List Elem}(h:vH l):dK l:=fun e he=>by have:=h e he; omega
theorem vH.get{l:List Elem}(h:vH l)(i:Nat):(l.getD i default).counts.length<2^30:=by
 rw[List.getD_eq_getElem?_getD];cases e:l[i]? with
 |none=>show([]:List Int).length<2^30; decide
 |some x=>exact h x (List.mem_of_getElem? e)
theorem S.kW(l:List Elem)(f:Bool)(hl:l.length<2^29)(hs:vH l):ak Tryz.prog 90 [.row 3 f (.elems l)] (.row 3 false (.elems (yP l))):=by
 refine ak.of Bd.kW (by simp) rfl rfl ?_;refine aA.nil 3 35 3 (by rfl) rfl rfl rfl ?_;refine aA.objs 1 [0,4] (fun i:Nat=>[(5,.int i),(3,.own 0)]) (fun i=>[(0,aZ ((l.take i).foldl oz []))]) (fun i=>i<=l.length) (fun i=>l.length-i) 0 [4] rfl (by decide) (fun _=>rfl) (Nat.zero_le _) ?_ ?_ ?_
 ·exact(sR rfl)
 ·exact⟨dL rfl rfl,trivial⟩
 refine⟨(sR rfl),rfl,?_⟩;rintro i hi;have hal:((l.take i).foldl oz []).length<=i:=by
  have:=Rn (l.take i) [];simp at this; omega
 refine⟨fun h3=>?_,fun h3=>?_⟩
 ·have hi':i<l.length:=by simpa using h3
  refine .mk (by simp only[Rw.rng] at *; omega) ?_;refine ah.heap (S.qX _ _ _ (by decide) (by omega) (N9 hs.e i) (hs.get i)) ?_;have hstep:=ru oz [] (l:=l) default hi';rintro t hp (⟨hf,rfl,rfl⟩|⟨hf,rfl,rfl⟩)
  ·refine⟨.own 0,h1 _,rfl,rfl,?_⟩;refine .mk (by simp only[okI] at *; omega) ?_;refine⟨i+1,[0],by omega,by omega,(sR rfl),(sR rfl),⟨rfl,nofun,rfl,rfl,rfl,_,rfl,rfl,rfl,?_⟩,trivial⟩;rw[Int.toNat_natCast] at hf;rw[hstep,oz,if_pos hf]; exact .refl _
  ·refine⟨.own _,[(_,some (aZ _))],rfl,rfl,?_⟩;refine .mk (by simp only[okI] at *; omega) ?_;refine⟨i+1,[10],by omega,by omega,(sR rfl),(sR rfl),⟨rfl,nofun,rfl,rfl,rfl,_,rfl,rfl,rfl,?_⟩,trivial⟩;rw[hstep]; exact .refl _
 ·have hi':l.length<=i:=by simpa using h3
  have hall:(l.take i).foldl oz []=KR l:=by rw[List.take_of_length_le hi']; rfl
  have hsl:vH (KR l):=fun x hx=>by
   rcases KT _ _ _ hx with h'|h'
   ·cases h'
   ·exact hs x h'
  rw[hall];rw[hall] at hal;generalize hA:KR l=A at hal hsl ⊢;have hrm:yP l=A.foldl fH []:=by rw[yP,hA]
  rw[hrm];clear hall hA hrm h3;refine aA.nil 4 35 3 (by rfl) rfl rfl rfl ?_;refine aA.objs 2 [] (fun i:Nat=>[(6,.int i),(3,.own 0),(4,.own 1)]) (fun i=>[(0,aZ A),(1,aZ ((A.take i).foldl fH []))]) (fun i=>i<=A.length) (fun i=>A.length-i) 0 [0,6] rfl (by decide) (fun _=>rfl) (Nat.zero_le _) ?_ ?_ ?_
  ·exact(sR rfl)
  ·exact⟨dL rfl rfl,dL rfl rfl,trivial⟩
  refine⟨trivial,rfl,?_⟩;rintro j hj;have hkl:((A.take j).foldl fH []).length<=j:=by
   have:=KO (A.take j) [];simp at this; omega
  refine⟨fun h3=>?_,fun h3=>?_⟩
  ·have hj':j<A.length:=by simpa using h3
   have hstep:=ru fH [] (l:=A) default hj';repeat(refine VC.mk (by simp only[Rw.rng] at *; omega) ?_)
   refine ah.lend (S.mW _ (A.getD j default) false (by omega) (zY hsl.e j) (hsl.e.get j)) ⟨BP trivial rfl,aC _,trivial⟩ rfl rfl ?_;refine⟨fun h4=>?_,fun h4=>?_⟩
   ·conv=>whnf
    repeat(refine VC.mk (by first|(show(((A.take j).foldl fH []).length+(0+1))*32<=140737488355328/\((A.take j).foldl fH []).length+(0+1)<=1152921504606846976; omega)|(simp only[okI,Rw.rng] at *; omega)) ?_)
    refine⟨j+1,[0,19],by omega,by omega,(sR rfl),trivial,dL rfl rfl,⟨rfl,nofun,rfl,rfl,rfl,_,rfl,rfl,rfl,dP.of_eq ?_⟩,trivial⟩;rw[hstep,fH,if_neg (by simpa using h4)];show List.map gq _++[]=List.map gq _++[gq _];simp
   ·conv=>whnf
    refine .mk (by simp only[okI] at *; omega) ?_;refine⟨j+1,[0,1],by omega,by omega,(sR rfl),trivial,dL rfl rfl,⟨rfl,nofun,rfl,rfl,rfl,_,rfl,rfl,rfl,dP.of_eq ?_⟩,trivial⟩;have h5:((A.take j).foldl fH []).any (fun b=>kK b (A.getD j default))=true:=by simpa using h4
    rw[hstep,fH,if_pos h5]
  ·conv=>whnf
   have hj':A.length<=j:=by simpa using h3
   have hA:A.take j=A:=List.take_of_length_le hj';rw[hA];exact aj.aal rfl
def uO(l:List Elem):Nat->List Elem
 |0=>[]
 |n+1=>if n=0\/l.getD n default≠l.getD (n-1) default then uO l n++[l.getD n default] else uO l n
theorem JM(l:List Elem): ∀ n,(uO l n).length<=n:=by
 intro n;induction n with
 |zero=>exact Nat.le_refl _
 |succ n ih =>
  simp only[uO]; split
  ·simp; omega
  ·omega
theorem ac8{l:List Elem}{x:Elem}: ∀ {n},x∈uO l n->n<=l.length->x∈l:=by
 intro n;induction n with
 |zero=>intro h; cases h
 |succ n ih =>
  intro h hn;simp only[uO] at h;split at h
  ·rcases List.mem_append.1 h with h|h
   ·exact ih h (by omega)
   ·rw[List.mem_singleton] at h; subst h;simp[show n<l.length by omega]
  ·exact ih h (by omega)
abbrev zeroV:V:=.agg [.int 0,.row 0 true .nil]
def mid(l:List Elem)(j:Nat):List Elem:=uO l j++l.drop (uO l j).length
theorem ac9{l:List Elem}{j:Nat}(h:j<=l.length):(mid l j).length=l.length:=by
 have:=JM l j;simp[mid]; omega
theorem WS{l:List Elem}{j i:Nat}(h:(uO l j).length<=i):(mid l j).getD i default=l.getD i default:=by
 unfold mid;rw[List.getD_eq_getElem?_getD,List.getElem?_append_right h,List.getElem?_drop,List.getD_eq_getElem?_getD]
 congr 2; omega
theorem ada{l:List Elem}{j:Nat}(hj:j<l.length)(h:j=0\/l.getD j default≠l.getD (j-1) default):(mid l j).set (uO l j).length (l.getD j default)=mid l (j+1):=by
 have hl:=JM l j;have e:uO l (j+1)=uO l j++[l.getD j default]:=by simp only[uO]; rw[if_pos h]
 unfold mid;rw[e,List.set_append_right _ _ (Nat.le_refl _),Nat.sub_self,bY default (show(uO l j).length<l.length by omega)];simp
theorem Ro{l:List Elem}{j:Nat}(h0:j≠0)(h:l.getD j default=l.getD (j-1) default):uO l (j+1)=uO l j:=by
 simp only[uO]; rw[if_neg]; intro q; rcases q with q|q
 ·exact h0 q
 ·exact q h
theorem KU{l:List Elem}{k:Nat}(hk:k<=l.length)(h: ∀ i,0<i->i<k->l.getD i default≠l.getD (i-1) default):uO l k=l.take k:=by
 induction k with
 |zero=>rfl
 |succ k ih =>
  simp only[uO];rw[if_pos,ih (by omega) fun i h1 h2=>h i h1 (by omega),List.take_add_one]
  ·simp[show k<l.length by omega]
  ·by_cases h0:k=0
   ·exact .inl h0
   ·exact .inr (h k (by omega) (by omega))
theorem KP(l:List Elem)(m nx:Nat):(OV.row 35 3 (.elems l) (List.replicate m zeroV)).good nx=true:=by
 have h1:F7 3 (List.replicate m zeroV)=true:=by
  induction m with
  |zero=>rfl
  |succ m ih=>simp only[List.replicate_succ,F7,ih,Bool.and_true]; rfl
 have h2:T.Oa nx (V.aU (List.replicate m zeroV))=true:=by
  clear h1;induction m with
  |zero=>rfl
  |succ m ih=>simp only[List.replicate_succ,V.aU,T.Oa,ih,Bool.and_true]; rfl
 simp only[OV.good,h1,h2]; rfl
theorem FQ(l:List Elem)(m:Nat):(OV.row 35 3 (.elems l) (List.replicate m zeroV)).Dz=true:=by
 simp only[OV.Dz];induction m with
 |zero=>rfl
 |succ m ih=>simp only[List.replicate_succ,V.bW,ih,Bool.and_true]; rfl
def uP(l:List Elem):List Elem:=uO l l.length
theorem S.Rq(l:List Elem)(n:Nat)(hl:l.length<2^30)(hs:dK l) :
  aP Tryz.prog 99 (V.aU [.own 0,.fn 100 []]) (h1 l).ay n
   (fun t hp=>(uP l=l/\t= .own 0/\hp=(h1 l).ay)\/(∃ m,t= .qE 0 0 (uP l).length/\hp=Hz.ay [(0,some (.row 35 3 (.elems (uP l)) (List.replicate m zeroV)))])):=by
 refine oL.of (nx:=1) Bd.eH (by simp) ⟨_,_,.inr ⟨0,rfl,rfl⟩⟩ rfl rfl ?_;refine⟨fun h1=>?_,fun h1=>?_⟩
 ·conv=>whnf
  have hc:uP l=l:=by
   have h2:l.length<2:=by simp at h1; omega
   rw[uP,KU (Nat.le_refl _) (fun i h3 h4=>by omega),List.take_length]
  exact iP.one (c:=0) (j:=0) (o:=aZ l) (t:=.own 0) rfl rfl rfl (fun _=>rfl) (.inl rfl) rfl (.eq rfl) (.inl ⟨hc,rfl,rfl⟩)
 ·have h2:2<=l.length:=by simp at h1; omega
  refine aA.same [0,1] (fun i:Nat=>[(5,.int i)]) (fun i=>1<=i/\i<=l.length/\ ∀ k,0<k->k<i->l.getD k default≠l.getD (k-1) default) (fun i=>l.length-i) 1 rfl (by decide) rfl (fun _=>rfl) ⟨by omega,by omega,fun k h3 h4=>by omega⟩ ⟨⟨_,rfl,rfl⟩,trivial⟩ ?_;refine⟨rfl,?_⟩;rintro k ⟨hk0,hk,hne⟩;have e1:((k:Int)-1).toNat=k-1:=by omega
  refine⟨fun h3=>?_,fun h3=>?_⟩
  ·have hk':k<l.length:=by simpa using h3
   repeat(refine VC.mk (by simp only[okI,Rw.rng]; omega) ?_)
   refine ah.pure (S.oh _ _ (hs.get _) (hs.get _)) rfl ?_;refine⟨fun h4=>?_,fun h4=>?_⟩
   ·have heq:l.getD k default=l.getD (k-1) default:=by
     rw[e1] at h4; simpa using h4
    have hdk:uO l k=l.take k:=KU hk hne;have afk:uO l (k+1)=l.take k:=by rw[Ro (by omega) heq,hdk]
    refine .mk (by simp only[Rw.qY]; omega) ?_;refine aA.objs 1 [0,1,6] (fun j:Nat=>[(7,.int j),(5,.int (uO l (k+j)).length)]) (fun j=>[(0,aZ (mid l (k+j)))]) (fun j=>1<=j/\k+j<=l.length/\(uO l (k+j)).length+1<=k+j) (fun j=>l.length-j) 1 [0] rfl (by decide) (fun _=>rfl) ⟨by omega,by omega,?_⟩ ?_ ?_ ?_
    ·rw[afk]; simp; omega
    ·refine⟨⟨_,rfl,.eq rfl⟩,⟨_,rfl,.eq ?_⟩,trivial⟩;rw[afk];show T.int (((l.take k).length:Nat):Int)=T.int (k:Int);simp[Nat.min_eq_left hk]
    ·refine⟨⟨rfl,(fun _=>rfl),rfl,rfl,rfl,_,rfl,rfl,rfl,dP.of_eq ?_⟩,trivial⟩
     have:mid l (k+1)=l:=by unfold mid; rw[afk]; simp[Nat.min_eq_left hk]
     rw[this]
    refine⟨(sR rfl),rfl,?_⟩;rintro j ⟨hj0,hj,hdl⟩;have hml:=ac9 hj;have e2:((j:Int)-1).toNat=j-1:=by omega
    have hsm:dK (mid l (k+j)):=fun x hx=>by
     unfold mid at hx;rcases List.mem_append.1 hx with hx|hx
     ·exact hs x (ac8 hx hj)
     ·exact hs x (List.mem_of_mem_drop hx)
    refine⟨fun h5=>?_,fun h5=>?_⟩
    ·have hj':k+j<l.length:=by
      have h6:j<l.length-k:=by
       have:(j:Int)<(((Rw.elems l).len-k:Nat):Int):=by simpa using h5
       have e3:(Rw.elems l).len=l.length:=rfl;rw[e3] at this;omega
      omega
     have g1:=WS (l:=l) (j:=k+j) (i:=k+j) (by omega);have g2:=WS (l:=l) (j:=k+j) (i:=k+(j-1)) (by omega);repeat(refine VC.mk (by first|(simp only[okI]; omega)|(show _/\_<(((l.length-k:Nat)):Int); omega)|(simp only[Rw.rng,hml,Int.toNat_natCast,e2]; omega)|(show(0:Int)<=_/\_<((mid l (k+j)).length:Int); rw[hml]; simp only[Int.toNat_natCast,e2]; omega)) ?_)
     refine ah.pure (S.oh _ _ (hsm.get _) (hsm.get _)) rfl ?_;simp only[Int.toNat_natCast,e2,g1,g2];conv=>whnf
     have e4:k+(j-1)=k+j-1:=by omega
     refine⟨fun h6=>?_,fun h6=>?_⟩
     ·have hne':l.getD (k+j) default≠l.getD (k+j-1) default:=by
       rw[e4] at h6; simpa using h6
      have hst:=ada hj' (.inr hne');have hd1:uO l (k+j+1)=uO l (k+j)++[l.getD (k+j) default]:=by simp only[uO]; rw[if_pos (.inr hne')]
      repeat(refine VC.mk (by first|(simp only[okI]; omega)|(show _/\_<(((l.length-k:Nat)):Int); omega)|(simp only[Rw.rng,hml,Int.toNat_natCast]; omega)|(show(0:Int)<=_/\_<((mid l (k+j)).length:Int); rw[hml]; simp only[Int.toNat_natCast]; omega)) ?_)
      refine⟨j+1,[0],⟨by omega,by omega,?_⟩,by omega,⟨⟨_,rfl,.eq rfl⟩,⟨_,rfl,.eq ?_⟩,trivial⟩,(sR rfl),⟨rfl,(fun _=>rfl),rfl,rfl,rfl,_,rfl,rfl,rfl,dP.of_eq ?_⟩,trivial⟩
      ·show(uO l (k+j+1)).length+1<=k+(j+1);rw[hd1]; simp; omega
      ·show T.int (((uO l (k+j+1)).length:Nat):Int)=T.int (((uO l (k+j)).length:Int)+1);rw[hd1]; simp
      ·show(aZ (mid l (k+j+1))).au.l=(OV.row 35 3 (.elems ((mid l (k+j)).set (((uO l (k+j)).length:Int)).toNat ((mid l (k+j)).getD ((k:Int).toNat+(j:Int).toNat) default))) []).au.l;simp only[Int.toNat_natCast,g1,hst]
     ·have heq':l.getD (k+j) default=l.getD (k+j-1) default:=by
       rw[e4] at h6; simpa using h6
      have hd1:uO l (k+j+1)=uO l (k+j):=Ro (by omega) heq';refine .mk (by simp only[okI] at *; omega) ?_;refine⟨j+1,[0],⟨by omega,by omega,?_⟩,by omega,⟨⟨_,rfl,.eq rfl⟩,⟨_,rfl,.eq ?_⟩,trivial⟩,(sR rfl),⟨rfl,(fun _=>rfl),rfl,rfl,rfl,_,rfl,rfl,rfl,dP.of_eq ?_⟩,trivial⟩
      ·show(uO l (k+j+1)).length+1<=k+(j+1);rw[hd1]; omega
      ·show T.int (((uO l (k+j+1)).length:Nat):Int)=T.int ((uO l (k+j)).length:Int);rw[hd1]
      ·show(aZ (mid l (k+j+1))).au.l=(aZ (mid l (k+j))).au.l;unfold mid; rw[hd1]
    ·have hj':k+j=l.length:=by
      have h6: ¬ (j:Int)<(((Rw.elems l).len-k:Nat):Int):=by simpa using h5
      have e3:(Rw.elems l).len=l.length:=rfl;rw[e3] at h6;omega
     have aip:(uO l (k+j)).length<=l.length:=by have:=JM l (k+j); omega
     repeat(refine VC.mk (by first|(simp only[Rw.qY,hml]; omega)|(refine⟨?_,rfl⟩; show((uO l (k+j)).length:Int).toNat<=(mid l (k+j)).length; rw[hml,Int.toNat_natCast]; omega)|(show(0:Int)<=((uO l (k+j)).length:Int)/\((uO l (k+j)).length:Int)<=(((mid l (k+j)).take ((uO l (k+j)).length:Int).toNat).length:Int); rw[List.length_take,hml,Int.toNat_natCast]; omega)|(show _<=(mid l (k+j)).length/\(mid l (k+j)).length=(mid l (k+j)).length; rw[hml]; simp only[Int.toNat_natCast]; omega)|(show(0:Int)<=_/\_<=(((mid l (k+j)).take _).length:Int); rw[List.length_take,hml]; simp only[Int.toNat_natCast]; omega)) ?_)
     have htk:(mid l (k+j)).take ((uO l (k+j)).length:Int).toNat=uP l:=by
      rw[Int.toNat_natCast]; unfold mid; rw[List.take_left,hj']; rfl
     have hcl:((uO l (k+j)).length:Int).toNat=(uP l).length:=by rw[Int.toNat_natCast,hj']; rfl
     refine iP.one (c:=0) (j:=0) (o:=.row 35 3 (.elems (uP l)) (List.replicate ((mid l (k+j)).length-((uO l (k+j)).length:Int).toNat) zeroV)) (t:=.qE 0 0 (uP l).length) ?_ (KP _ _ _) (FQ _ _) (fun _=>rfl) (.inl rfl) rfl (.eq ?_) (.inr ⟨_,rfl,rfl⟩)
     ·rw[<- htk]; rfl
     ·rw[<- hcl]; rfl
   ·conv=>whnf
    refine .mk (by simp only[okI] at *; omega) ?_;refine⟨k+1,⟨by omega,by omega,fun i h5 h6=>?_⟩,by omega,⟨⟨_,rfl,rfl⟩,trivial⟩,?_,rfl⟩
    ·by_cases e:i=k
     ·subst e; rw[e1] at h4; simpa using h4
     ·exact hne i h5 (by omega)
    ·repeat' (first|exact trivial|exact⟨_,rfl,rfl⟩|constructor)
  ·conv=>whnf
   have hk':l.length<=k:=by simpa using h3
   have hc:uP l=l:=by
    rw[uP,KU (Nat.le_refl _) (fun i h3 h4=>hne i h3 (by omega)),List.take_length]
   exact iP.one (c:=0) (j:=0) (o:=aZ l) (t:=.own 0) rfl rfl rfl (fun _=>rfl) (.inl rfl) rfl (.eq rfl) (.inl ⟨hc,rfl,rfl⟩)
theorem S.Ym:ak Tryz.prog 152 [.raw (.lit (.int .u64 0))] (.int 0):=by
 refine ak.of Bd.vK (by simp) rfl rfl ?_;refine Fork.mk (fun q=>absurd (q.symm.trans ((rfl:decide ((4294967296:Int)<=0)=false))).symm Bool.false_ne_true) (fun _=>?_);refine Fork.mk (fun q=>absurd (q.symm.trans ((rfl:decide ((65536:Int)<=0)=false))).symm Bool.false_ne_true) (fun _=>?_);refine Fork.mk (fun q=>absurd (q.symm.trans ((rfl:decide ((256:Int)<=0)=false))).symm Bool.false_ne_true) (fun _=>?_);refine .mk (by omega) ?_;repeat(refine VC.mk (by constructor<;>decide) ?_)
 exact aj.int (by decide)
theorem S.bitsLen:ak Tryz.prog 129 [.raw (.lit (.int .u64 0))] (.int 0):=by
 refine ak.of Bd.yQ (by simp) rfl rfl ?_;refine Fork.mk (fun q=>absurd (q.symm.trans ((rfl:false=false))).symm Bool.false_ne_true) (fun _=>?_);refine ah.pure (S.Ym) rfl ?_;exact aj.int rfl
theorem S.U7(n:Nat):aP Tryz.prog 143 (V.aU [.own 0,.int 0,.int 0,.fn 95 []]) (h1 []).ay n (fun t hp=>t= .dW []/\hp=(h1 []).ay):=by
 refine oL.of (nx:=1) (h0:=h1 []) Bd.dG (by simp) ⟨_,_,rfl,rfl⟩ rfl rfl ?_;refine .mk (by simp only[okI] at *; omega) ?_;refine aA.times 1 rfl ?_;refine Fork.mk (fun q=>absurd (q.symm.trans ((rfl:decide ((0:Int)+1<0)=false))).symm Bool.false_ne_true) (fun _=>?_);exact iP.one (c:=0) (j:=0) (o:=aZ []) (t:=.dW []) rfl rfl rfl (fun _=>rfl) (.inl rfl) trivial (.eq rfl) ⟨rfl,rfl⟩
theorem S.ahG(n:Nat):aP Tryz.prog 128 (V.aU [.own 0,.int 0,.int 0,.int 0,.fn 95 []]) (h1 []).ay n (fun t hp=>t= .dW []/\hp=(h1 []).ay):=by
 refine oL.of (nx:=1) (h0:=h1 []) Bd.gY (by simp) ⟨_,_,rfl,rfl⟩ rfl rfl ?_;refine aA.times 1 rfl ?_;refine .mk (by simp only[okI] at *; omega) ?_;refine Fork.mk (fun _=>?_) (fun q=>absurd (q.symm.trans ((rfl:decide ((0:Int)-0<=12)=true))) Bool.false_ne_true);refine ah.heap (S.U7 _) (fun t hp ⟨e1,e2⟩=>⟨.dW [],h1 [],e1,e2,?_⟩);exact iP.one (c:=0) (j:=0) (o:=aZ []) (t:=.dW []) rfl rfl rfl (fun _=>rfl) (.inl rfl) trivial (.eq rfl) ⟨rfl,rfl⟩
theorem S.adb(n:Nat):aP Tryz.prog 98 (V.aU [.own 0,.fn 95 []]) (h1 []).ay n (fun t hp=>t= .dW []/\hp=(h1 []).ay):=by
 refine oL.of (nx:=1) (h0:=h1 []) Bd.dB (by simp) ⟨_,_,rfl,rfl⟩ rfl rfl ?_;refine .mk (by simp only[List.length_nil]; omega) ?_;refine ah.pure (S.bitsLen) rfl ?_;refine ah.heap (S.ahG _) (fun t hp ⟨e1,e2⟩=>⟨.dW [],h1 [],e1,e2,?_⟩);exact iP.one (c:=0) (j:=0) (o:=aZ []) (t:=.dW []) rfl rfl rfl (fun _=>rfl) (.inl rfl) trivial (.eq rfl) ⟨rfl,rfl⟩
theorem Yn: ∀ a b:List Int,cmpL b a= -cmpL a b:=by
 intro a;induction a with
 |nil=>intro b; cases b<;>rfl
 |cons x a ih =>
  intro b;cases b with
  |nil=>rfl
  |cons y b =>
   simp only[cmpL];by_cases h1:x<y
   ·have h2: ¬ y<x:=by omega
    simp[h1,h2]
   ·by_cases h2:y<x
    ·simp[h1,h2]
    ·simp[h1,h2,ih]
theorem og(a b:Elem):gV b a= -gV a b:=by
 simp only[gV];by_cases h1:a.value<b.value
 ·have h2: ¬ b.value<a.value:=by omega
  simp[h1,h2]
 ·by_cases h2:b.value<a.value
  ·simp[h1,h2]
  ·simp[h1,h2,Yn a.counts b.counts]
theorem U8: ∀ {a b c:List Int},cmpL a b<0->cmpL b c<0->cmpL a c<0:=by
 intro a;induction a with
 |nil =>
  intro b c h1 h2;cases b with
  |nil=>simp[cmpL] at h1
  |cons y b=>cases c with
   |nil=>simp[cmpL] at h2
   |cons z c=>simp[cmpL]
 |cons x a ih =>
  intro b c h1 h2;cases b with
  |nil=>simp[cmpL] at h1
  |cons y b=>cases c with
   |nil=>simp[cmpL] at h2
   |cons z c =>
    simp only[cmpL] at h1 h2 ⊢;by_cases a1:x<y
    ·by_cases a2:y<z
     ·rw[if_pos (by omega)]; omega
     ·by_cases a3:z<y
      ·simp[a2,a3] at h2
      ·rw[if_pos (by omega)]; omega
    ·by_cases a4:y<x
     ·simp[a1,a4] at h1
     ·simp only[a1,a4,if_false] at h1;have e:x=y:=by omega
      subst e;by_cases a2:x<z
      ·simp[a2]
      ·by_cases a3:z<x
       ·simp[a2,a3] at h2
       ·simp only[a2,a3,if_false] at h2 ⊢;exact ih h1 h2
theorem rC{a b c:Elem}(h1:gV a b<0)(h2:gV b c<0):gV a c<0:=by
 simp only[gV] at h1 h2 ⊢;by_cases a1:a.value<b.value
 ·by_cases a2:b.value<c.value
  ·rw[if_pos (by omega)]; omega
  ·by_cases a3:c.value<b.value
   ·simp[a2,a3] at h2
   ·rw[if_pos (by omega)]; omega
 ·by_cases a4:b.value<a.value
  ·simp[a1,a4] at h1
  ·simp only[a1,a4,if_false] at h1;by_cases a2:b.value<c.value
   ·rw[if_pos (by omega)]; omega
   ·by_cases a3:c.value<b.value
    ·simp[a2,a3] at h2
    ·simp only[a2,a3,if_false] at h2;rw[if_neg (by omega),if_neg (by omega)];exact U8 h1 h2
theorem Eh{a b c:Elem}(h1: ¬ gV b a<0)(h2: ¬ gV c b<0): ¬ gV c a<0:=by
 rw[og a b] at h1;rw[og b c] at h2;rw[og a c];by_cases e1:gV a b=0
 ·rw[jK] at e1; subst e1; exact h2
 ·by_cases e2:gV b c=0
  ·rw[jK] at e2; subst e2; exact h1
  ·have:=rC (a:=a) (b:=b) (c:=c) (by omega) (by omega);omega
def F8(l:List Elem):Prop:=l.Pairwise fun a b=> ¬ gV b a<0
def U9(e:Elem):List Elem->List Elem
 |[]=>[e]
 |x::r=>if gV x e<0 then x::U9 e r else e::x::r
def sN(l:List Elem):List Elem:=l.foldr U9 []
theorem Oc(e:Elem): ∀ l,(U9 e l).Perm (e::l):=by
 intro l;induction l with
 |nil=>exact .refl _
 |cons x r ih =>
  simp only[U9]; split
  ·exact((ih.cons x).trans (.swap e x r))
  ·exact .refl _
theorem xk: ∀ l,(sN l).Perm l:=by
 intro l;induction l with
 |nil=>exact .refl _
 |cons x r ih=>exact(Oc x _).trans (ih.cons x)
theorem aaE(e:Elem): ∀ l,F8 l->F8 (U9 e l):=by
 intro l;induction l with
 |nil=>intro _; simp[F8,U9]
 |cons x r ih =>
  intro h;have h':=h;simp only[F8,List.pairwise_cons] at h;simp only[U9];split
  ·rename_i hlt;simp only[F8,List.pairwise_cons];refine⟨fun y hy=>?_,ih h.2⟩;rcases List.mem_cons.1 ((Oc e r).mem_iff.1 hy) with rfl|hy
   ·rw[og]; omega
   ·exact h.1 y hy
  ·rename_i hge;simp only[F8,List.pairwise_cons];refine⟨fun y hy=>?_,h⟩;rcases List.mem_cons.1 hy with rfl|hy
   ·exact hge
   ·exact Eh hge (h.1 y hy)
theorem DK: ∀ l,F8 (sN l):=by
 intro l;induction l with
 |nil=>simp[F8,sN]
 |cons x r ih=>exact aaE x _ ih
theorem Va: ∀ {a b:List Elem},a.Perm b->F8 a->F8 b->a=b:=by
 intro a;induction a with
 |nil=>intro b hp _ _; exact hp.nil_eq
 |cons x a ih =>
  intro b hp ha hb;cases b with
  |nil=>exact absurd hp.symm (by simp)
  |cons y b =>
   have h1:=ha; have h2:=hb;simp only[F8,List.pairwise_cons] at h1 h2;have hxy:x=y:=by
    by_cases e:x=y
    ·exact e
    ·have hx:x∈b:=by
      rcases List.mem_cons.1 (hp.mem_iff.1 (by simp:x∈x::a)) with h|h
      ·exact absurd h e
      ·exact h
     have hy:y∈a:=by
      rcases List.mem_cons.1 (hp.mem_iff.2 (by simp:y∈y::b)) with h|h
      ·exact absurd h.symm e
      ·exact h
     have g1:=h1.1 y hy;have g2:=h2.1 x hx;rw[og] at g1
     have:gV x y=0:=by omega
     exact jK.1 this
   subst hxy;rw[ih (List.Perm.cons_inv hp) h1.2 h2.2]
def Ei:T->Elem
 | .agg [.lit (.int _ v),.sl _ _ l]=>⟨v,l.map yR⟩
 |_=>default
theorem JO(e:Elem):Ei (gq e)=e:=by
 obtain⟨v,c⟩:=e;simp only[gq,Ei]
 congr 1
 rw[List.map_map];conv=>rhs; rw[<- List.map_id c]
 exact List.map_congr_left fun x _=>rfl
theorem S.ahH{x y:Elem}(hx:x.counts.length<2^40)(hy:y.counts.length<2^40):xq Tryz.prog 95 [gq x,gq y] (.int (gV x y)):=S.jd x y hx hy
theorem aaF(l:List Elem):(h1 l).ay=upd no 0 (some ⟨35,3,l.map gq⟩):=by
 show Hz.ay ((0,some (aZ l))::[])=_;rw[dF];simp[aZ,OV.au,Rw.aU,V.aU]; rfl
theorem afl: ∀ w,(isAgg 35).run Tryz.prog w= .ok true w:=fun w=>zZ (k:=3) (by kernel_rfl)
theorem agM: ∀ w,(Go.sizeOf 35).run Tryz.prog w= .ok 2 w:=fun w=>jl (k:=3) (by kernel_rfl)
theorem S.SortFunc(l:List Elem)(n:Nat)(hl:l.length<2^30)(hs:dK l) :
  aP Tryz.prog 98 (V.aU [.own 0,.fn 95 []]) (h1 l).ay n (fun t hp=>t= .dW []/\hp=(h1 (sN l)).ay):=by
 by_cases hne:l=[]
 ·subst hne;exact S.adb n
 ·have hx: ∀ t∈l.map gq,∃ e∈l,t=gq e:=fun t ht=>by obtain⟨e,he,rfl⟩:=List.mem_map.1 ht; exact⟨e,he,rfl⟩
  have H:=aP.sort (n:=n) Tryz.laySort 2 (by decide) afl agM (by exact Bd.dB.cl) (g:=95) (by decide) (by exact Bd.jd.cl) (l:=l.map gq) (by simpa using hne)
   (fun t ht=>by obtain⟨e,_,rfl⟩:=hx t ht; rfl) (EK l) (by simp; omega) (fun x y=>gV (Ei x) (Ei y))
   (fun t ht=>by rw[jK.2 rfl]; decide)
   (fun x _ y _ z _ h1 h2=>rC h1 h2)
   (fun x _ y _ z _ h1 h2=>Eh h2 h1)
   (fun x hx1 y hy1=>by
    obtain⟨a,ha,rfl⟩:=hx x hx1;obtain⟨b,hb,rfl⟩:=hx y hy1
    simp only[JO]; exact S.ahH (hs a ha) (hs b hb))
   (by decide) ⟨(sN l).map gq,(xk l).map gq,by
    rw[List.pairwise_map]; simp only[JO]; exact DK l⟩ (h:=(h1 l).ay) (i:=0) (ty:=35) (by rw[aaF]; rfl)
  refine aP.mono H ?_;rintro t hp ⟨rfl,l',hp',hpw,rfl⟩;refine⟨rfl,?_⟩;have hl':l'=(l'.map Ei).map gq:=by
   rw[List.map_map];conv=>lhs; rw[<- List.map_id l']
   refine List.map_congr_left fun t ht=>?_
   obtain⟨e,_,rfl⟩:=hx t (hp'.mem_iff.1 ht);simp[JO]
  have hperm:(l'.map Ei).Perm l:=by
   have:=hp'.map Ei;rw[List.map_map] at this;have e:l.map (Ei ∘ gq)=l:=by
    conv=>rhs; rw[<- List.map_id l]
    exact List.map_congr_left fun e _=>JO e
   rw[e] at this; exact this
  have hsrt:F8 (l'.map Ei):=by
   unfold F8; rw[List.pairwise_map]; exact hpw
  have heq:l'.map Ei=sN l:=Va (hperm.trans (xk l).symm) hsrt (DK l);rw[aaF,aaF];rw[hl',heq];funext j;simp only[upd]; split<;>rfl
def rH(l:List Elem):List Elem:=uP (sN l)
theorem Oe(l:List Elem):(sN l).length=l.length:=(xk l).length_eq
theorem Rt{l:List Elem}(h:dK l):dK (sN l):=fun e he=>h e ((xk l).mem_iff.1 he)
theorem S.uo(l:List Elem)(n:Nat)(hl:l.length<2^30)(hs:dK l) :
  aP Tryz.prog 64 (V.aU [.own 0]) (h1 l).ay n
   (fun t hp=>(t= .own 0/\hp=(h1 (rH l)).ay)\/(∃ m,t= .qE 0 0 (rH l).length/\hp=Hz.ay [(0,some (.row 35 3 (.elems (rH l)) (List.replicate m zeroV)))])):=by
 refine oL.of (nx:=1) Bd.uo (by simp) ⟨_,_,.inl ⟨rfl,rfl⟩⟩ rfl rfl ?_;refine ah.heap (S.SortFunc l _ hl hs) ?_;rintro t hp ⟨rfl,rfl⟩;refine⟨.dW [],h1 (sN l),rfl,rfl,?_⟩;refine ah.heap (S.Rq (sN l) _ (by rw[Oe]; exact hl) (Rt hs)) ?_;rintro t hp (⟨hc,rfl,rfl⟩|⟨m,rfl,rfl⟩)
 ·refine⟨.own 0,h1 (sN l),rfl,rfl,?_⟩;refine iP.one (c:=0) (j:=0) (o:=aZ (sN l)) (t:=.own 0) rfl rfl rfl (fun _=>rfl) (.inl rfl) rfl (.eq rfl) (.inl ⟨rfl,?_⟩);rw[rH,hc]
 ·refine⟨.qE 0 0 (uP (sN l)).length,[(0,some (.row 35 3 (.elems (uP (sN l))) (List.replicate m zeroV)))],rfl,rfl,?_⟩;exact iP.one (c:=0) (j:=0) (o:=.row 35 3 (.elems (uP (sN l))) (List.replicate m zeroV)) (t:=.qE 0 0 (uP (sN l)).length) rfl (KP _ _ _) (FQ _ _) (fun _=>rfl) (.inl rfl) rfl (.eq rfl) (.inr ⟨m,rfl,rfl⟩)
def vS(l:List Elem)(x:Elem):Bool:= !(l.any (yO x))
def aK(l:List Elem):List Elem:=rH (l.filter (vS l))
theorem Ru{l:List Elem}{p:Elem->Bool}{i:Nat}(h:i<l.length):(l.take (i+1)).filter p=(l.take i).filter p++(if p (l.getD i default)=true then [l.getD i default] else []):=by
 rw[List.take_add_one,List.filter_append]
 congr 1
 simp only[List.getElem?_eq_getElem h,Option.toList_some,List.getD_eq_getElem?_getD,Option.getD_some,List.filter_cons,List.filter_nil]
theorem aj.acZ{h:Hz}{j m:Nat}{l:List Elem}(q:h.get j=some (.row 35 3 (.elems l) (List.replicate m zeroV))):aj (.row 3 false (.elems l)) (.qE j 0 l.length) h:=⟨by
 show T.sub (fun _=>True) h.ay (.sl 3 false (l.map gq)) (.qE j 0 l.length);simp only[T.sub];refine⟨trivial,trivial,EK l,by decide,35,l.map gq++V.aU (List.replicate m zeroV),?_,by simp,by simp⟩
 exact aN q⟩
theorem S.lM(l:List Elem)(f:Bool)(hl:l.length<2^29)(hs:dK l):ak Tryz.prog 33 [.row 3 f (.elems l)] (.row 3 false (.elems (aK l))):=by
 refine ak.of Bd.lM (by simp) rfl rfl ?_;refine aA.nil 3 35 3 (by rfl) rfl rfl rfl ?_;refine aA.objs 1 [0,8,9] (fun i:Nat=>[(10,.int i),(3,.own 0)]) (fun i=>[(0,aZ ((l.take i).filter (vS l)))]) (fun i=>i<=l.length) (fun i=>l.length-i) 0 [5] rfl (by decide) (fun _=>rfl) (Nat.zero_le _) ?_ ?_ ?_
 ·exact(sR rfl)
 ·exact⟨dL rfl rfl,trivial⟩
 refine⟨(sR rfl),rfl,?_⟩;rintro i hi;have hfl:((l.take i).filter (vS l)).length<=i:=by
  have:=List.length_filter_le (vS l) (l.take i);simp at this; omega
 refine⟨fun h3=>?_,fun h3=>?_⟩
 ·have hi':i<l.length:=by simpa using h3
  have hstep:=Ru (p:=vS l) hi';refine .mk (by simp only[Rw.rng] at *; omega) ?_;refine ah.pure (S.Ns l (l.getD i default) false f (by omega) hs (hs.get i)) rfl ?_;refine⟨fun h4=>?_,fun h4=>?_⟩
  ·conv=>whnf
   refine ah.pure (S.kV (l.getD i default) (l.any (yO (l.getD i default))) (hs.get i)) rfl ?_;repeat(refine VC.mk (by first|(show(((l.take i).filter (vS l)).length+(0+1))*32<=140737488355328/\((l.take i).filter (vS l)).length+(0+1)<=1152921504606846976; omega)|(simp only[okI] at *; omega)) ?_)
   refine⟨i+1,[25],by omega,by omega,(sR rfl),(sR rfl),⟨rfl,nofun,rfl,rfl,rfl,_,rfl,rfl,rfl,dP.of_eq ?_⟩,trivial⟩;rw[hstep,if_pos (show vS l (l.getD i default)=true from h4)];show List.map gq _++[]=List.map gq _++[gq _];simp
  ·conv=>whnf
   refine .mk (by simp only[okI] at *; omega) ?_;refine⟨i+1,[0],by omega,by omega,(sR rfl),(sR rfl),⟨rfl,nofun,rfl,rfl,rfl,_,rfl,rfl,rfl,dP.of_eq ?_⟩,trivial⟩;rw[hstep,if_neg (by rw[show vS l (l.getD i default)=false from h4]; decide),List.append_nil]
 ·have hi':l.length<=i:=by simpa using h3
  have hA:l.take i=l:=List.take_of_length_le hi';rw[hA] at hfl ⊢;refine ah.heap (S.uo (l.filter (vS l)) _ (by omega) (fun e he=>hs e (List.mem_filter.1 he).1)) ?_;rintro t hp (⟨rfl,rfl⟩|⟨m,rfl,rfl⟩)
  ·refine⟨.own 0,h1 _,rfl,rfl,?_⟩;exact aj.aal rfl
  ·refine⟨.qE 0 0 _,[(0,some _)],rfl,rfl,?_⟩;exact aj.acZ rfl
theorem aaG: ∀ {a b:List Int},nI a b=true->cmpL a b<=0:=by
 intro a;induction a with
 |nil=>intro b h; cases b<;>simp[nI,cmpL] at *
 |cons x a ih =>
  intro b h;cases b with
  |nil=>simp[nI] at h
  |cons y b =>
   simp only[nI,Bool.and_eq_true,decide_eq_true_eq] at h;simp only[cmpL];by_cases h1:x<y
   ·simp[h1]
   ·have h2: ¬ y<x:=by omega
    simp only[h1,h2,if_false]; exact ih h.2
theorem FY{a b:Elem}(h:kK a b=true):gV a b<=0:=by
 simp only[kK,Bool.and_eq_true,beq_iff_eq] at h;simp only[gV];rw[if_neg (by omega),if_neg (by omega)];exact aaG h.2
theorem Yo: ∀ a:List Int,nI a a=true:=by
 intro a;induction a with
 |nil=>rfl
 |cons x a ih=>simp[nI,ih]
theorem yZ(a:Elem):kK a a=true:=by simp[kK,Yo]
theorem Vb: ∀ {a b c:List Int},nI a b=true->nI b c=true->nI a c=true:=by
 intro a;induction a with
 |nil=>intro b c h1 h2; cases b<;>cases c<;>simp[nI] at *
 |cons x a ih =>
  intro b c h1 h2;cases b with
  |nil=>simp[nI] at h1
  |cons y b=>cases c with
   |nil=>simp[nI] at h2
   |cons z c =>
    simp only[nI,Bool.and_eq_true,decide_eq_true_eq] at *;exact⟨by omega,ih h1.2 h2.2⟩
theorem uh{a b c:Elem}(h1:kK a b=true)(h2:kK b c=true):kK a c=true:=by
 simp only[kK,Bool.and_eq_true,beq_iff_eq] at *;exact⟨by omega,Vb h1.2 h2.2⟩
theorem nO{x y:Elem}:yO x y=true↔kK y x=true/\y≠x:=by
 simp only[yO,Bool.and_eq_true,bne_iff_ne,ne_eq,jK]
theorem FZ{x y:Elem}(h:yO x y=true):gV y x<0:=by
 rw[nO] at h;have h1:=FY h.1;have h2:gV y x≠0:=fun e=>h.2 (jK.1 e)
 omega
def SS(l:List Elem):Prop:=l.Pairwise fun a b=>gV a b<0
theorem zh: ∀ {a b:List Elem},SS a->SS b->(∀ x,x∈a↔x∈b)->a=b:=by
 intro a;induction a with
 |nil =>
  intro b _ _ h;cases b with
  |nil=>rfl
  |cons y b=>exact absurd ((h y).2 (by simp)) (by simp)
 |cons x a ih =>
  intro b ha hb h;cases b with
  |nil=>exact absurd ((h x).1 (by simp)) (by simp)
  |cons y b =>
   simp only[SS,List.pairwise_cons] at ha hb;have hself: ∀ z:Elem,¬ gV z z<0:=fun z=>by rw[jK.2 rfl]; decide
   have hxy:x=y:=by
    rcases List.mem_cons.1 ((h x).1 (by simp)) with e|hx
    ·exact e
    ·rcases List.mem_cons.1 ((h y).2 (by simp)) with e|hy
     ·exact e.symm
     ·exact absurd (rC (ha.1 y hy) (hb.1 x hx)) (hself x)
   subst hxy;rw[ih ha.2 hb.2 fun z=>?_];constructor
   ·intro hz;rcases List.mem_cons.1 ((h z).1 (by simp[hz])) with e|h'
    ·subst e; exact absurd (ha.1 z hz) (hself z)
    ·exact h'
   ·intro hz;rcases List.mem_cons.1 ((h z).2 (by simp[hz])) with e|h'
    ·subst e; exact absurd (hb.1 z hz) (hself z)
    ·exact h'
theorem Og{l:List Elem}(hs:F8 l): ∀ n,n<=l.length->SS (uO l n)/\(∀ x,x∈uO l n↔x∈l.take n)/\(∀ x∈uO l n,n<l.length-> ¬ gV (l.getD n default) x<0):=by
 intro n;induction n with
 |zero=>intro _; exact⟨by simp[SS,uO],by simp[uO],by simp[uO]⟩
 |succ n ih =>
  intro hn;obtain⟨h1,h2,h3⟩:=ih (by omega);have hnl:n<l.length:=by omega
  have hmono: ∀ i j,i<=j->j<l.length-> ¬ gV (l.getD j default) (l.getD i default)<0:=by
   intro i j hij hj;by_cases e:i=j
   ·subst e; rw[jK.2 rfl]; decide
   ·have:=List.pairwise_iff_getElem.1 hs i j (by omega) hj (by omega);simpa [hj,show i<l.length by omega] using this
  have htake: ∀ x,x∈l.take n-> ∃ i,i<n/\l.getD i default=x:=by
   intro x hx;rw[List.mem_take_iff_getElem] at hx;obtain⟨i,hi,e⟩:=hx;exact⟨i,by omega,by rw[<- e]; simp[show i<l.length by omega]⟩
  have hlast:l.take (n+1)=l.take n++[l.getD n default]:=by
   rw[List.take_add_one]; simp[hnl]
  simp only[uO];split
  ·rename_i hc;refine⟨?_,?_,?_⟩
   ·simp only[SS,List.pairwise_append];refine⟨h1,by simp,fun x hx y hy=>?_⟩;rw[List.mem_singleton] at hy; subst hy;have hge:=h3 x hx hnl;rw[og] at hge;have hne:gV x (l.getD n default)≠0:=by
     intro e;rw[jK] at e;rcases hc with hc|hc
     ·subst hc; simp[uO] at hx
     ·obtain⟨i,hi,hix⟩:=htake x ((h2 x).1 hx);have g1:=hmono i (n-1) (by omega) (by omega);have g2:=hmono (n-1) n (by omega) hnl;rw[hix,e] at g1;rw[og] at g1
      have:gV (l.getD n default) (l.getD (n-1) default)=0:=by omega
      exact hc (jK.1 this)
    omega
   ·intro x;rw[hlast];simp only[List.mem_append,h2]
   ·intro x hx hn1;rcases List.mem_append.1 hx with hx|hx
    ·obtain⟨i,hi,hix⟩:=htake x ((h2 x).1 hx);rw[<- hix]; exact hmono i (n+1) (by omega) hn1
    ·rw[List.mem_singleton] at hx; subst hx;exact hmono n (n+1) (by omega) hn1
  ·rename_i hc;have hc':n≠0/\l.getD n default=l.getD (n-1) default:=by
    constructor
    ·intro e; exact hc (.inl e)
    ·by_cases e:l.getD n default=l.getD (n-1) default
     ·exact e
     ·exact absurd (.inr e) hc
   refine⟨h1,fun x=>?_,fun x hx hn1=>?_⟩
   ·rw[hlast,h2];simp only[List.mem_append,List.mem_singleton];constructor
    ·exact .inl
    ·rintro(h|h)
     ·exact h
     ·rw[h,hc'.2];rw[List.mem_take_iff_getElem];exact⟨n-1,by omega,by simp[show n-1<l.length by omega]⟩
   ·obtain⟨i,hi,hix⟩:=htake x ((h2 x).1 hx);rw[<- hix]; exact hmono i (n+1) (by omega) hn1
theorem KN(l:List Elem):SS (rH l):=(Og (DK l) _ (Nat.le_refl _)).1
theorem wz(l:List Elem)(x:Elem):x∈rH l↔x∈l:=by
 unfold rH uP;rw[(Og (DK l) _ (Nat.le_refl _)).2.1,List.take_length];exact(xk l).mem_iff
theorem Yp{l:List Elem}{e:Elem}: ∀ i,i<=l.length->(∀ j,vJ l e i<=j->j<i->0<gV (l.getD j default) e)/\(0<vJ l e i-> ¬ 0<gV (l.getD (vJ l e i-1) default) e):=by
 intro i;induction i with
 |zero=>intro _; exact⟨fun j _ h=>by omega,fun h=>by simp[vJ] at h⟩
 |succ i ih =>
  intro hi;simp only[vJ];split
  ·rename_i hc;obtain⟨h1,h2⟩:=ih (by omega);refine⟨fun j hj hji=>?_,h2⟩;by_cases e:j=i
   ·subst e; exact hc
   ·exact h1 j hj (by omega)
  ·rename_i hc;exact⟨fun j h1 h2=>by omega,fun _=>by simpa using hc⟩
theorem EL{l:List Elem}{e:Elem}(hs:SS l):SS (oz l e)/\ ∀ x,x∈oz l e↔x=e\/x∈l:=by
 obtain⟨h1,h2⟩:=Yp (l:=l) (e:=e) l.length (Nat.le_refl _);have hp:=WQ (l:=l) (e:=e) l.length;have hlt: ∀ i j,i<j->j<l.length->gV (l.getD i default) (l.getD j default)<0:=by
  intro i j hij hj;have:=List.pairwise_iff_getElem.1 hs i j (by omega) hj hij;simpa [hj,show i<l.length by omega] using this
 unfold oz;split
 ·rename_i hf;simp only[yM,Bool.and_eq_true,decide_eq_true_eq] at hf;refine⟨hs,fun x=>⟨.inr,?_⟩⟩;rintro(rfl|h)
  ·have:=jK.1 hf.2;rw[<- this];have hlt':vJ l x l.length-1<l.length:=by omega
   simp[hlt']
  ·exact h
 ·rename_i hf;generalize hpe:vJ l e l.length=p at *;have hle: ∀ i,i<p->gV (l.getD i default) e<0:=by
   intro i hi;have hlast:gV (l.getD (p-1) default) e<0:=by
    have g1:=h2 (by omega);have g2:gV (l.getD (p-1) default) e≠0:=by
     intro e0;apply hf;simp only[yM,hpe,Bool.and_eq_true,decide_eq_true_eq];exact⟨by omega,e0⟩
    omega
   by_cases e0:i=p-1
   ·subst e0; exact hlast
   ·exact rC (hlt i (p-1) (by omega) (by omega)) hlast
  have hge: ∀ j,p<=j->j<l.length->gV e (l.getD j default)<0:=by
   intro j hj hjl;have:=h1 j hj hjl;rw[og]; omega
  refine⟨?_,fun x=>?_⟩
  ·simp only[SS,List.pairwise_append,List.pairwise_cons];refine⟨hs.sublist (List.take_sublist _ _),⟨fun y hy=>?_,hs.sublist (List.drop_sublist _ _)⟩,fun x hx y hy=>?_⟩
   ·rw[List.mem_drop_iff_getElem] at hy;obtain⟨j,hj,rfl⟩:=hy;have:=hge (p+j) (by omega) (by omega);simpa [show p+j<l.length by omega] using this
   ·rw[List.mem_take_iff_getElem] at hx;obtain⟨i,hi,rfl⟩:=hx;have g1:=hle i (by omega);rw[show l.getD i default=l[i] by simp[show i<l.length by omega]] at g1;rcases List.mem_cons.1 hy with rfl|hy
    ·exact g1
    ·rw[List.mem_drop_iff_getElem] at hy;obtain⟨j,hj,rfl⟩:=hy;have:=hlt i (p+j) (by omega) (by omega);simpa [show p+j<l.length by omega,show i<l.length by omega] using this
  ·simp only[List.mem_append,List.mem_cons];constructor
   ·rintro(h|h|h)
    ·exact .inr (List.mem_of_mem_take h)
    ·exact .inl h
    ·exact .inr (List.mem_of_mem_drop h)
   ·rintro(h|h)
    ·exact .inr (.inl h)
    ·rw[<- List.take_append_drop p l,List.mem_append] at h;rcases h with h|h
     ·exact .inl h
     ·exact .inr (.inr h)
theorem Vd: ∀ (l acc:List Elem),SS acc->SS (l.foldl oz acc)/\ ∀ x,x∈l.foldl oz acc↔x∈acc\/x∈l:=by
 intro l;induction l with
 |nil=>intro acc h; exact⟨h,by simp⟩
 |cons y l ih =>
  intro acc h;obtain⟨g1,g2⟩:=EL (e:=y) h;obtain⟨h1,h2⟩:=ih (oz acc y) g1;refine⟨h1,fun x=>?_⟩;simp only[List.foldl_cons];rw[h2,g2,List.mem_cons];constructor
  ·rintro((h|h)|h)
   ·exact .inr (.inl h)
   ·exact .inl h
   ·exact .inr (.inr h)
  ·rintro(h|h|h)
   ·exact .inl (.inr h)
   ·exact .inl (.inl h)
   ·exact .inr h
theorem filter_lt{l:List Elem}{p q:Elem->Bool}(hpq: ∀ x,p x=true->q x=true){y:Elem}(hy:y∈l)(hq:q y=true)(hp:p y=false):(l.filter p).length<(l.filter q).length:=by
 induction l with
 |nil=>cases hy
 |cons x l ih =>
  have hle: ∀ l:List Elem,(l.filter p).length<=(l.filter q).length:=by
   intro l;induction l with
   |nil=>simp
   |cons z l ih =>
    simp only[List.filter_cons];by_cases h1:p z=true
    ·rw[if_pos h1,if_pos (hpq z h1)]; simp; exact ih
    ·rw[if_neg h1]; split
     ·simp; omega
     ·exact ih
  simp only[List.filter_cons];rcases List.mem_cons.1 hy with rfl|hy
  ·rw[if_neg (by rw[hp]; decide),if_pos hq];have:=hle l;simp; omega
  ·have:=ih hy;by_cases h1:p x=true
   ·rw[if_pos h1,if_pos (hpq x h1)]; simp; exact this
   ·rw[if_neg h1]; split
    ·simp; omega
    ·exact this
theorem Yq(l:List Elem): ∀ (n:Nat) (b:Elem),b∈l->(l.filter fun z=>decide (gV z b<0)).length<=n-> ∃ z∈l,kK z b=true/\l.any (yO z)=false:=by
 intro n;induction n with
 |zero =>
  intro b hb hn;refine⟨b,hb,yZ b,?_⟩;rw[List.any_eq_false];intro y hy hab
  have:y∈l.filter fun z=>decide (gV z b<0):=List.mem_filter.2 ⟨hy,by simpa using FZ hab⟩
  have:=List.length_pos_of_mem this;omega
 |succ n ih =>
  intro b hb hn;cases hm:l.any (yO b) with
  |false=>exact⟨b,hb,yZ b,hm⟩
  |true =>
   rw[List.any_eq_true] at hm;obtain⟨y,hy,hab⟩:=hm;have hlt:=FZ hab;have hfl:(l.filter fun z=>decide (gV z y<0)).length<(l.filter fun z=>decide (gV z b<0)).length:=by
    refine filter_lt (y:=y) (fun x hx=>?_) hy (by simpa using hlt) (by rw[jK.2 rfl]; decide);simp only[decide_eq_true_eq] at hx ⊢;exact rC hx hlt
   obtain⟨z,hz,h1,h2⟩:=ih y hy (by omega);exact⟨z,hz,uh h1 (nO.1 hab).1,h2⟩
theorem U3(l:List Elem){b:Elem}(hb:b∈l): ∃ z∈l,kK z b=true/\l.any (yO z)=false:=Yq l _ b hb (Nat.le_refl _)
theorem Rx{A:List Elem}(hA:SS A): ∀ i,i<=A.length->SS ((A.take i).foldl fH [])/\ ∀ x,x∈(A.take i).foldl fH []↔x∈A.take i/\A.any (yO x)=false:=by
 intro i;induction i with
 |zero=>intro _; simp[SS]
 |succ i ih =>
  intro hi;obtain⟨h1,h2⟩:=ih (by omega);have hil:i<A.length:=by omega
  rw[ru fH [] default hil];have hlast:A.take (i+1)=A.take i++[A.getD i default]:=by rw[List.take_add_one]; simp[hil]
  generalize hx:A.getD i default=x at hlast ⊢;have hxA:x∈A:=by rw[<- hx]; simp[hil]
  have hlt: ∀ y∈A.take i,gV y x<0:=by
   intro y hy;rw[List.mem_take_iff_getElem] at hy;obtain⟨j,hj,rfl⟩:=hy;have:=List.pairwise_iff_getElem.1 hA j i (by omega) hil (by omega);rw[<- hx]; simpa [hil] using this
  have hself: ∀ z:Elem,¬ gV z z<0:=fun z=>by rw[jK.2 rfl]; decide
  have hbef: ∀ y∈A,gV y x<0->y∈A.take i:=by
   intro y hy hyx;rw[<- List.take_append_drop i A,List.mem_append] at hy;rcases hy with hy|hy
   ·exact hy
   ·exfalso;rw[List.mem_drop_iff_getElem] at hy;obtain⟨j,hj,rfl⟩:=hy;by_cases e:j=0
    ·subst e
     have:A[i+0]=x:=by rw[<- hx]; simp[hil]
     rw[this] at hyx; exact hself x hyx
    ·have:=List.pairwise_iff_getElem.1 hA i (i+j) hil (by omega) (by omega);rw[show A[i]=x by rw[<- hx]; simp[hil]] at this;exact hself x (rC this hyx)
  have hkey:(((A.take i).foldl fH []).any fun b=>kK b x)=A.any (yO x):=by
   rw[Bool.eq_iff_iff,List.any_eq_true,List.any_eq_true];constructor
   ·rintro⟨b,hb,hbx⟩;obtain⟨hb1,hb2⟩:=(h2 b).1 hb;refine⟨b,List.mem_of_mem_take hb1,nO.2 ⟨hbx,?_⟩⟩;rintro rfl;exact hself b (hlt b hb1)
   ·rintro⟨y,hy,hyx⟩;obtain⟨z,hz,hz1,hz2⟩:=U3 A hy;have hzx:=uh hz1 (nO.1 hyx).1;have ahI:gV z x<0:=by
     have g1:=FY hz1;have g2:=FZ hyx;by_cases e:gV z y=0
     ·rw[jK] at e; subst e; exact g2
     ·exact rC (by omega) g2
    exact⟨z,(h2 z).2 ⟨hbef z hz ahI,hz2⟩,hzx⟩
  generalize (A.take i).foldl fH []=K at h1 h2 hkey ⊢;unfold fH;rw[hkey];cases hm:A.any (yO x) with
  |true =>
   rw[if_pos rfl];refine⟨h1,fun y=>?_⟩;rw[h2,hlast];simp only[List.mem_append,List.mem_singleton];constructor
   ·rintro⟨a,b⟩; exact⟨.inl a,b⟩
   ·rintro⟨a|a,b⟩
    ·exact⟨a,b⟩
    ·subst a; rw[hm] at b; cases b
  |false =>
   rw[if_neg (by decide)];refine⟨?_,fun y=>?_⟩
   ·simp only[SS,List.pairwise_append];refine⟨h1,by simp,fun a ha b hb=>?_⟩;rw[List.mem_singleton] at hb; subst hb;exact hlt a ((h2 a).1 ha).1
   ·rw[hlast];simp only[List.mem_append,List.mem_singleton,h2];constructor
    ·rintro(⟨a,b⟩|a)
     ·exact⟨.inl a,b⟩
     ·subst a; exact⟨.inr rfl,hm⟩
    ·rintro⟨a|a,b⟩
     ·exact .inl ⟨a,b⟩
     ·exact .inr a
theorem any_congr{a b:List Elem}{p:Elem->Bool}(h: ∀ x,x∈a↔x∈b):a.any p=b.any p:=by
 rw[Bool.eq_iff_iff,List.any_eq_true,List.any_eq_true];exact⟨fun⟨x,h1,h2⟩=>⟨x,(h x).1 h1,h2⟩,fun⟨x,h1,h2⟩=>⟨x,(h x).2 h1,h2⟩⟩
theorem F9(l:List Elem):SS (yP l)/\ ∀ x,x∈yP l↔x∈l/\l.any (yO x)=false:=by
 obtain⟨a1,a2⟩:=Vd l [] (by simp[SS]);have hmem: ∀ x,x∈KR l↔x∈l:=fun x=>by rw[KR,a2]; simp
 obtain⟨h1,h2⟩:=Rx (A:=KR l) a1 _ (Nat.le_refl _);rw[List.take_length] at h1 h2;refine⟨h1,fun x=>?_⟩;show x∈(KR l).foldl fH []↔_;rw[h2,hmem,any_congr hmem]
theorem bZ(l:List Elem):SS (aK l)/\ ∀ x,x∈aK l↔x∈l/\l.any (yO x)=false:=by
 refine⟨KN _,fun x=>?_⟩;rw[aK,wz,List.mem_filter];simp[vS]
theorem Aa(l:List Elem):aK l=yP l :=
 zh (bZ l).1 (F9 l).1 fun x=>by rw[(bZ l).2,(F9 l).2]
theorem Ku(l:List Elem)(e:Elem):(aK l).any (fun b=>kK b e)=l.any fun b=>kK b e:=by
 rw[Bool.eq_iff_iff,List.any_eq_true,List.any_eq_true];constructor
 ·rintro⟨x,h1,h2⟩; exact⟨x,((bZ l).2 x |>.1 h1).1,h2⟩
 ·rintro⟨x,h1,h2⟩;obtain⟨z,hz,hz1,hz2⟩:=U3 l h1;exact⟨z,((bZ l).2 z).2 ⟨hz,hz2⟩,uh hz1 h2⟩
theorem QO(l:List Elem):aK (aK l)=aK l:=by
 refine zh (bZ _).1 (bZ l).1 fun x=>?_
 rw[(bZ (aK l)).2];constructor
 ·exact fun h=>h.1
 ·intro h;refine⟨h,?_⟩;have:=((bZ l).2 x).1 h;rw[List.any_eq_false] at this ⊢;exact fun y hy=>this.2 y (((bZ l).2 y).1 hy).1
theorem mX{l:List Elem}{x:Elem}(h:x∈aK l):x∈l:=(((bZ l).2 x).1 h).1
theorem uy(l:List Elem):(aK l).length<=l.length:=by
 have h1:=JM (sN (l.filter (vS l))) (sN (l.filter (vS l))).length;have h2:=Oe (l.filter (vS l));have h3:=List.length_filter_le (vS l) l;show(uO _ _).length<=_;omega
end Go.Proofs.YtkmldgihhaooaaaGreatDoor
