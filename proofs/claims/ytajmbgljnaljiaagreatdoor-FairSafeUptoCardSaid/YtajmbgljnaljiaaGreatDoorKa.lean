/-
 A part of the proof. No condition.
-/
import Derived.Test.YtajmbgljnaljiaaGreatDoorSb
import Derived.Test.YtajmbgljnaljiaaGreatDoorLg
import Derived.Test.YtajmbgljnaljiaaGreatDoorLe
import Derived.Test.YtajmbgljnaljiaaGreatDoorSc
namespace Go.Proofs.YtajmbgljnaljiaaGreatDoor
open Go.Ab Go.Proofs
set_option maxRecDepth 100000
def RX(a b:Int):Int:=if a<b then -1 else if b<a then 1 else 0
def cmpL:List Int->List Int->Int
 |[],[]=>0
 |[],_::_=> -1
 |_::_,[]=>1
 |x::a,y::b=>if x<y then -1 else if y<x then 1 else cmpL a b
def iK(a b:Elem):Int:=if a.value<b.value then -1 else if b.value<a.value then 1 else cmpL a.counts b.counts
theorem dO{α:Type}{l:List α}{i:Nat}(d:α)(h:i<l.length):l.drop i=l.getD i d::l.drop (i+1):=by
 rw[List.drop_eq_getElem_cons h]; simp[h]
theorem Ll{a b:List Int}{i:Nat}(ha:i<a.length)(hb:i<b.length) :
  cmpL (a.drop i) (b.drop i)=if a.getD i 0<b.getD i 0 then -1 else if b.getD i 0<a.getD i 0 then 1 else cmpL (a.drop (i+1)) (b.drop (i+1)):=by
 rw[dO 0 ha,dO 0 hb]; rfl
theorem D6{a b:List Int}{i:Nat}(hi:a.length<=i\/b.length<=i)(h1:i<=a.length)(h2:i<=b.length) :
  cmpL (a.drop i) (b.drop i)=if a.length<b.length then -1 else if b.length<a.length then 1 else 0:=by
 by_cases ha:a.length<=i
 ·have e:a.drop i=[]:=List.drop_eq_nil_of_le ha
  rw[e]
  by_cases hb:b.length<=i
  ·rw[List.drop_eq_nil_of_le hb,if_neg (by omega),if_neg (by omega)]; rfl
  ·rw[dO 0 (by omega),if_pos (by omega)]; rfl
 ·have hb:b.length<=i:=by omega
  rw[List.drop_eq_nil_of_le hb,dO 0 (by omega),if_neg (by omega),if_pos (by omega)]; rfl
theorem S.cmp_isNaN_int(a:Int):aj Tryz.prog 107 [.int a] (.bool false):=by
 refine aj.of Bd.cmp_isNaN_int (by simp) rfl rfl ?_
 conv=>whnf
 refine ak.bool ?_
 simp
theorem S.cmp_Compare_int(a b:Int):aj Tryz.prog 72 [.int a,.int b] (.int (RX a b)):=by
 refine aj.of Bd.cmp_Compare_int (by simp) rfl rfl ?_
 conv=>whnf
 refine ah.pure (S.cmp_isNaN_int a) rfl ?_
 conv=>whnf
 refine ah.pure (S.cmp_isNaN_int b) rfl ?_
 conv=>whnf
 refine Fork.mk (fun h1=>by cases h1) (fun _=>?_)
 conv=>whnf
 refine Fork.mk (fun h1=>by cases h1) (fun _=>?_)
 conv=>whnf
 refine⟨fun h1=>?_,fun h1=>?_⟩
 ·conv=>whnf
  exact ak.int (by simp only[decide_eq_true_eq] at h1; simp[RX,h1])
 ·conv=>whnf
  simp only[decide_eq_false_iff_not] at h1
  refine⟨fun h2=>?_,fun h2=>?_⟩
  ·conv=>whnf
   exact ak.int (by simp only[decide_eq_true_eq] at h2; simp[RX,h1,h2])
  ·conv=>whnf
   exact ak.int (by simp only[decide_eq_false_iff_not] at h2; simp[RX,h1,h2])
theorem S.IQ(a b:List Int)(ha:a.length<2^40)(hb:b.length<2^40):aj Tryz.prog 73 [.row 0 false (.ints a),.row 0 false (.ints b)] (.int (cmpL a b)):=by
 refine aj.of Bd.gX (by simp) rfl rfl ?_
 conv=>whnf
 refine aI.same [0,1,9,10] (fun i:Nat=>[(11,.int i)]) (fun i=>i<=a.length/\i<=b.length/\cmpL a b=cmpL (a.drop i) (b.drop i)) (fun i=>a.length-i) 0 rfl (by decide) rfl (fun _=>rfl) ⟨by omega,by omega,rfl⟩ ⟨⟨_,rfl,rfl⟩,trivial⟩ ?_
 conv=>whnf
 refine⟨rfl,?_⟩
 rintro i ⟨hi,hj,he⟩
 conv=>whnf
 refine⟨fun h3=>?_,fun h3=>?_⟩
 ·have hi':i<a.length:=by simpa using h3
  conv=>whnf
  refine .mk (by simp only[Rw.rng] at *; first|omega|(simp_all; done)|(simp_all; omega)) ?_
  conv=>whnf
  refine⟨fun h4=>?_,fun h4=>?_⟩
  ·conv=>whnf
   have hb':b.length<=i:=by simpa using h4
   refine ak.int ?_
   rw[he,D6 (.inr hb') hi hj,if_neg (by omega),if_pos (by omega)]
  ·have hb':i<b.length:=by simpa using h4
   conv=>whnf
   refine .mk (by simp only[Rw.rng] at *; first|omega|(simp_all; done)|(simp_all; omega)) ?_
   conv=>whnf
   refine ah.pure (S.cmp_Compare_int _ _) rfl ?_
   rw[Ll hi' hb'] at he
   conv=>whnf
   simp only[Int.toNat_natCast]
   refine⟨fun h5=>?_,fun h5=>?_⟩
   ·conv=>whnf
    refine ak.int ?_
    rw[he]
    simp only[bne_iff_ne,ne_eq] at h5 ⊢
    generalize a.getD i 0=x at h5 ⊢
    generalize b.getD i 0=y at h5 ⊢
    unfold RX at h5 ⊢
    by_cases h6:x<y
    ·simp[h6]
    ·by_cases h7:y<x
     ·simp[h6,h7]
     ·simp[h6,h7] at h5
   ·conv=>whnf
    refine .mk (by simp only[okI] at *; first|omega|(simp_all; done)|(simp_all; omega)) ?_
    conv=>whnf
    have h6: ¬ a.getD i 0<b.getD i 0/\ ¬ b.getD i 0<a.getD i 0:=by
     simp only[bne_eq_false_iff_eq] at h5
     generalize a.getD i 0=x at h5 ⊢
     generalize b.getD i 0=y at h5 ⊢
     unfold RX at h5
     by_cases h6:x<y
     ·simp[h6] at h5
     ·by_cases h7:y<x
      ·simp[h6,h7] at h5
      ·exact⟨h6,h7⟩
    refine⟨i+1,⟨by omega,by omega,by rw[he,if_neg h6.1,if_neg h6.2]⟩,by omega,⟨⟨_,rfl,rfl⟩,trivial⟩,?_,rfl⟩
    repeat' (first|exact trivial|exact⟨_,rfl,rfl⟩|constructor)
 ·have hi':a.length<=i:=by simpa using h3
  conv=>whnf
  refine⟨fun h4=>?_,fun h4=>?_⟩
  ·conv=>whnf
   refine ak.int ?_
   rw[he,D6 (.inl hi') hi hj,if_pos (by simpa using h4)]
  ·conv=>whnf
   refine ak.int ?_
   have:b.length<=a.length:=by simpa using h4
   rw[he,D6 (.inl hi') hi hj,if_neg (by omega),if_neg (by omega)]
theorem S.pK(x y:Int)(f:Bool):aj Tryz.prog 71 [.row 0 f (.ints [x,y])] (.int (if x≠0 then x else y)):=by
 refine aj.of Bd.pK (by simp) rfl rfl ?_
 conv=>whnf
 refine aI.same [3,6,7] (fun i:Nat=>[(8,.int i)]) (fun i=>i<=2/\(0<i->x=0)/\(1<i->y=0)) (fun i=>2-i) 0 rfl (by decide) rfl (fun _=>rfl) ⟨by omega,by omega,by omega⟩ ⟨⟨_,rfl,rfl⟩,trivial⟩ ?_
 conv=>whnf
 refine⟨rfl,?_⟩
 rintro i ⟨hi,h0,h1⟩
 conv=>whnf
 refine⟨fun h3=>?_,fun h3=>?_⟩
 ·have hi':i<2:=by simp at h3; omega
  conv=>whnf
  refine .mk (by simp only[Rw.rng,List.length_cons,List.length_nil]; omega) ?_
  conv=>whnf
  refine⟨fun h4=>?_,fun h4=>?_⟩
  ·conv=>whnf
   refine ak.int ?_
   simp only[Int.toNat_natCast,bne_iff_ne,ne_eq] at h4 ⊢
   by_cases e:i=0
   ·subst e; simp at h4 ⊢; simp[h4]
   ·have:i=1:=by omega
    subst this; simp at h4 ⊢; simp[h0]
  ·conv=>whnf
   refine .mk (by simp only[okI] at *; first|omega|(simp_all; done)|(simp_all; omega)) ?_
   conv=>whnf
   refine⟨i+1,⟨by omega,fun _=>?_,fun hlt=>?_⟩,by omega,⟨⟨_,rfl,rfl⟩,trivial⟩,?_,rfl⟩
   ·by_cases e:i=0
    ·subst e; simpa using h4
    ·exact h0 (by omega)
   ·have:i=1:=by omega
    subst this; simpa using h4
   ·repeat' (first|exact trivial|exact⟨_,rfl,rfl⟩|constructor)
 ·have:i=2:=by simp at h3; omega
  subst this
  conv=>whnf
  refine ak.int ?_
  simp[h0,h1]
theorem S.fZ(a b:Elem)(ha:a.counts.length<2^40)(hb:b.counts.length<2^40):aj Tryz.prog 45 [.dat (.elem a),.dat (.elem b)] (.int (iK a b)):=by
 refine aj.of Bd.fZ (by simp) rfl rfl ?_
 conv=>whnf
 refine ah.pure (S.cmp_Compare_int a.value b.value) rfl ?_
 conv=>whnf
 refine ah.pure (S.IQ a.counts b.counts ha hb) rfl ?_
 conv=>whnf
 refine ah.pure (S.pK _ _ true) rfl ?_
 conv=>whnf
 refine ak.int ?_
 unfold iK RX
 by_cases h6:a.value<b.value
 ·simp[h6]
 ·by_cases h7:b.value<a.value
  ·simp[h6,h7]
  ·simp[h6,h7]
def gq(l:List Elem):Prop:= ∀ e∈l,e.counts.length<2^40
theorem gq.get{l:List Elem}(h:gq l)(i:Nat):(l.getD i default).counts.length<2^40:=by
 rw[List.getD_eq_getElem?_getD]
 cases e:l[i]? with
 |none=>show([]:List Int).length<2^40; decide
 |some x=>exact h x (List.mem_of_getElem? e)
theorem jE{α:Type}{l:List α}{p:α->Bool}{d:α}{i:Nat}(hi:i<l.length)(h:(l.take i).any p=false):(l.take (i+1)).any p=p (l.getD i d):=by
 rw[List.take_add_one,List.any_append,h,Bool.false_or]
 simp[hi]
theorem gI{α:Type}{l:List α}{p:α->Bool}{d:α}{i:Nat}(hi:i<l.length)(h:p (l.getD i d)=true):l.any p=true:=by
 rw[List.any_eq_true]
 exact⟨l[i],List.getElem_mem hi,by simpa [hi] using h⟩
theorem S.rX(a b:List Int)(ha:a.length<2^40)(hb:b.length<2^40):aj Tryz.prog 91 [.row 0 false (.ints a),.row 0 false (.ints b)] (.int (cmpL a b)):=by
 refine aj.of Bd.rX (by simp) rfl rfl ?_
 conv=>whnf
 refine aI.same [0,1] (fun i:Nat=>[(5,.int i)]) (fun i=>i<=a.length/\i<=b.length/\cmpL a b=cmpL (a.drop i) (b.drop i)) (fun i=>a.length-i) 0 rfl (by decide) rfl (fun _=>rfl) ⟨by omega,by omega,rfl⟩ ⟨⟨_,rfl,rfl⟩,trivial⟩ ?_
 conv=>whnf
 refine⟨rfl,?_⟩
 rintro i ⟨hi,hj,he⟩
 conv=>whnf
 repeat(refine VC.mk (by first|exact id|exact fun h=>⟨h,h⟩) ?_; conv=>whnf)
 refine⟨fun h3=>?_,fun h3=>?_⟩
 ·have hi':i<a.length/\i<b.length:=by
   by_cases h:i<a.length
   ·simp[h] at h3; exact⟨h,by omega⟩
   ·simp[h] at h3
  rw[Ll hi'.1 hi'.2] at he
  obtain⟨hi1,hi2⟩:=hi'
  conv=>whnf
  repeat(refine VC.mk (by simp only[Rw.rng] at *; first|omega|(simp_all; done)|(simp_all; omega)) ?_; conv=>whnf)
  refine⟨fun h5=>?_,fun h5=>?_⟩
  ·conv=>whnf
   refine ak.int ?_
   simp only[Int.toNat_natCast,decide_eq_true_eq] at h5
   rw[he,if_pos h5]
  ·conv=>whnf
   repeat(refine VC.mk (by simp only[Rw.rng] at *; first|omega|(simp_all; done)|(simp_all; omega)) ?_; conv=>whnf)
   simp only[Int.toNat_natCast,decide_eq_false_iff_not] at h5
   refine⟨fun h6=>?_,fun h6=>?_⟩
   ·conv=>whnf
    refine ak.int ?_
    simp only[Int.toNat_natCast,decide_eq_true_eq] at h6
    rw[he,if_neg h5,if_pos h6]
   ·conv=>whnf
    refine .mk (by simp only[okI] at *; first|omega|(simp_all; done)|(simp_all; omega)) ?_
    conv=>whnf
    simp only[Int.toNat_natCast,decide_eq_false_iff_not] at h6
    refine⟨i+1,⟨by omega,by omega,by rw[he,if_neg h5,if_neg h6]⟩,by omega,⟨⟨_,rfl,rfl⟩,trivial⟩,?_,rfl⟩
    repeat' (first|exact trivial|exact⟨_,rfl,rfl⟩|constructor)
 ·have hi':a.length<=i\/b.length<=i:=by
   by_cases h:i<a.length
   ·simp[h] at h3; exact .inr (by omega)
   ·exact .inl (by omega)
  have hx:=D6 hi' hi hj
  rw[<- he] at hx
  conv=>whnf
  refine⟨fun h4=>?_,fun h4=>?_⟩
  ·conv=>whnf
   refine ak.int ?_
   rw[hx,if_pos (by simpa using h4)]
  ·conv=>whnf
   have h5: ¬ a.length<b.length:=by simpa using h4
   refine⟨fun h6=>?_,fun h6=>?_⟩
   ·conv=>whnf
    refine ak.int ?_
    rw[hx,if_neg h5,if_pos (by simpa using h6)]
   ·conv=>whnf
    refine ak.int ?_
    rw[hx,if_neg h5,if_neg (by simpa using h6)]
theorem S.lH(a b:Elem)(ha:a.counts.length<2^40)(hb:b.counts.length<2^40):aj Tryz.prog 57 [.dat (.elem a),.dat (.elem b)] (.int (iK a b)):=by
 refine aj.of Bd.lH (by simp) rfl rfl ?_
 conv=>whnf
 refine⟨fun h1=>?_,fun h1=>?_⟩
 ·conv=>whnf
  exact ak.int (by simp only[decide_eq_true_eq] at h1; simp[iK,h1])
 ·conv=>whnf
  simp only[decide_eq_false_iff_not] at h1
  refine⟨fun h2=>?_,fun h2=>?_⟩
  ·conv=>whnf
   exact ak.int (by simp only[decide_eq_true_eq] at h2; simp[iK,h1,h2])
  ·simp only[decide_eq_false_iff_not] at h2
   conv=>whnf
   refine ah.pure (S.rX a.counts b.counts ha hb) rfl ?_
   conv=>whnf
   exact ak.int (by simp[iK,h1,h2])
theorem cmpL_eq: ∀ {a b:List Int},cmpL a b=0↔a=b:=by
 intro a
 induction a with
 |nil=>intro b; cases b<;>simp[cmpL]
 |cons x a ih =>
  intro b
  cases b with
  |nil=>simp[cmpL]
  |cons y b =>
   simp only[cmpL]
   split
   ·simp; omega
   ·split
    ·simp; omega
    ·rw[ih]; simp; intro _; omega
theorem kX{a b:Elem}:iK a b=0↔a=b:=by
 obtain⟨v,c⟩:=a; obtain⟨w,d⟩:=b
 simp only[iK]
 split
 ·simp; omega
 ·split
  ·simp; omega
  ·rw[cmpL_eq]; simp; intro _; omega
def Ic(n:Int):Bool:=decide (0<=n)&&decide (n<=1048576)
theorem S.kU(l:List Int)(f:Bool)(hl:l.length<2^40):aj Tryz.prog 123 [.row 0 f (.ints l)] (.bool (l.all Ic)):=by
 refine aj.of Bd.kU (by simp) rfl rfl ?_
 conv=>whnf
 refine aI.same [5,6] (fun i:Nat=>[(7,.int i)]) (fun i=>i<=l.length/\(l.take i).all Ic=true) (fun i=>l.length-i) 0 rfl (by decide) rfl (fun _=>rfl) ⟨by omega,by simp⟩ ⟨⟨_,rfl,rfl⟩,trivial⟩ ?_
 conv=>whnf
 refine⟨rfl,?_⟩
 rintro i ⟨hi,hall⟩
 conv=>whnf
 refine⟨fun h3=>?_,fun h3=>?_⟩
 ·have hi':i<l.length:=by simpa using h3
  conv=>whnf
  repeat(refine VC.mk (by first|exact id|(intro h; rw[h]; rfl)|(simp only[Rw.rng] at *; first|omega|(simp_all; done)|(simp_all; omega))) ?_; conv=>whnf)
  refine⟨fun h4=>?_,fun h4=>?_⟩
  ·conv=>whnf
   refine ak.bool ?_
   simp only[Int.toNat_natCast] at h4
   have h5:Ic (l.getD i 0)=false:=by
    have key: ∀ x:Int,(decide (x<0)||decide (1048576<x))=true->Ic x=false:=by
     intro x h4
     unfold Ic
     by_cases h0:x<0
     ·simp; omega
     ·simp[h0] at h4; simp; omega
    exact key _ h4
   rw[Bool.eq_false_iff]
   intro h
   rw[List.all_eq_true] at h
   have:=h l[i] (List.getElem_mem hi')
   rw[show l.getD i 0=l[i] by simp[hi']] at h5
   rw[this] at h5; cases h5
  ·conv=>whnf
   refine .mk (by simp only[okI] at *; first|omega|(simp_all; done)|(simp_all; omega)) ?_
   conv=>whnf
   simp only[Int.toNat_natCast] at h4
   refine⟨i+1,⟨by omega,?_⟩,by omega,⟨⟨_,rfl,rfl⟩,trivial⟩,?_,rfl⟩
   ·have h5:Ic (l.getD i 0)=true:=by
     have key: ∀ x:Int,(decide (x<0)||decide (1048576<x))=false->Ic x=true:=by
      intro x h4
      unfold Ic
      by_cases h0:x<0
      ·simp[h0] at h4
      ·simp[h0] at h4; simp; omega
     exact key _ h4
    rw[List.take_add_one,List.all_append,hall]
    simpa [hi'] using h5
   ·repeat' (first|exact trivial|exact⟨_,rfl,rfl⟩|constructor)
 ·conv=>whnf
  refine ak.bool ?_
  have hi':l.length<=i:=by simpa using h3
  rw[List.take_of_length_le hi'] at hall; exact hall
def zD(e:Elem):Int:=if 6<e.counts.length then 0 else if e.counts.all Ic=true then e.counts.sum else 0
theorem xI: ∀ {l:List Int},l.all Ic=true->0<=l.sum/\l.sum<=l.length*1048576:=by
 intro l
 induction l with
 |nil=>intro _; simp
 |cons x l ih =>
  intro h
  simp only[List.all_cons,Bool.and_eq_true,Ic,decide_eq_true_eq] at h
  have:=ih h.2
  simp only[List.sum_cons,List.length_cons]
  omega
theorem PS{l:List Int}(h:l.all Ic=true)(i:Nat):(l.take i).all Ic=true:=by
 rw[List.all_eq_true] at h ⊢
 exact fun x hx=>h x (List.mem_of_mem_take hx)
theorem Ib{l:List Int}{i:Nat}(hi:i<l.length):(l.take (i+1)).sum=(l.take i).sum+l.getD i 0:=by
 rw[List.take_add_one,List.sum_append]; simp[hi]
theorem S.lF(e:Elem)(hl:e.counts.length<2^40):aj Tryz.prog 90 [.dat (.elem e)] (.int (zD e)):=by
 refine aj.of Bd.lF (by simp) rfl rfl ?_
 conv=>whnf
 repeat(refine VC.mk id ?_; conv=>whnf)
 refine ah.iD (fun _=>S.kU e.counts false hl) rfl ?_
 conv=>whnf
 repeat(refine VC.mk (by first|exact id|(intro h; rw[h]; rfl)) ?_; conv=>whnf)
 refine⟨fun h1=>?_,fun h1=>?_⟩
 ·conv=>whnf
  refine ak.int ?_
  unfold zD
  by_cases h:6<e.counts.length
  ·rw[if_pos h]
  ·rw[if_neg h,if_neg]
   have h': ¬ (6:Int)<e.counts.length:=by omega
   simp[h'] at h1
   intro hh
   rw[List.all_eq_true] at hh
   obtain⟨x,hx,hx'⟩:=h1
   exact absurd (hh x hx) (by simp[hx'])
 ·have h2: ¬ 6<e.counts.length/\e.counts.all Ic=true:=by
   by_cases h:(6:Int)<e.counts.length
   ·simp[h] at h1
   ·simp[h] at h1
    exact⟨by omega,by rw[List.all_eq_true]; exact h1⟩
  conv=>whnf
  refine aI.same [17,18] (fun i:Nat=>[(19,.int i),(3,.int (e.counts.take i).sum)]) (fun i=>i<=e.counts.length) (fun i=>e.counts.length-i) 0 rfl (by decide) rfl (fun _=>rfl) (by omega) ⟨⟨_,rfl,rfl⟩,⟨_,rfl,rfl⟩,trivial⟩ ?_
  conv=>whnf
  refine⟨rfl,?_⟩
  rintro i hi
  have hb:=xI (PS h2.2 i)
  have hb':((e.counts.take i).length:Int)<=6:=by simp; omega
  conv=>whnf
  refine⟨fun h3=>?_,fun h3=>?_⟩
  ·have hi':i<e.counts.length:=by simpa using h3
   have hs:=Ib hi'
   have hc:=xI (PS h2.2 (i+1))
   have hc':((e.counts.take (i+1)).length:Int)<=6:=by simp; omega
   conv=>whnf
   repeat(refine VC.mk (by first|(simp only[okI,Int.toNat_natCast] at *; rw[<- hs]; omega)|(simp only[okI,Rw.rng] at *; first|omega|(simp_all; done)|(simp_all; omega))) ?_; conv=>whnf)
   refine⟨i+1,by omega,by omega,⟨⟨_,rfl,rfl⟩,⟨_,rfl,?_⟩,trivial⟩,?_,rfl⟩
   ·rw[hs]; simp[V.aG,qZ]
   ·repeat' (first|exact trivial|exact⟨_,rfl,rfl⟩|constructor)
  ·conv=>whnf
   refine ak.int ?_
   have hi':e.counts.length<=i:=by simpa using h3
   rw[List.take_of_length_le hi']
   simp[zD,h2.1,h2.2]
def Ye(p:Elem->Bool)(l:List Elem):Int:=if l.any p=true then(l.findIdx p:Int) else -1
theorem J3{p:Elem->Bool}{l:List Elem}{i:Nat}(hi:i<l.length)(h0:(l.take i).any p=false)(h1:p (l.getD i default)=true):l.findIdx p=i:=by
 rw[List.findIdx_eq hi]
 refine⟨by simpa [hi] using h1,fun j hj=>?_⟩
 rw[List.any_eq_false] at h0
 have:=h0 l[j] (by rw[List.mem_take_iff_getElem]; exact⟨j,by omega,rfl⟩)
 simpa using this
theorem ak.elem{e:Elem}{n ty:Nat}{h:Hz}(q:h.get n=some (.row ty 0 (.ints e.counts) [])):ak (.dat (.elem e)) (.agg [.int e.value,.own n]) h:=⟨by
 show T.sub (fun _=>True) h.ay (eG e) (.agg [.int e.value,.own n])
 simp only[eG,T.sub,T.dM,and_true]
 refine⟨trivial,trivial,trivial,?_,by decide,ty,?_⟩
 ·rw[fU]; intro t ht; obtain⟨x,_,rfl⟩:=List.mem_map.1 ht; rfl
 ·have:=aZ q; simpa [OV.aF,Rw.bn,V.bn] using this⟩
theorem S.oJ(e:Elem)(he:e.counts.length<2^40):aj Tryz.prog 27 [.dat (.elem e)] (.dat (.elem e)):=by
 refine aj.of Bd.oJ (by simp) rfl rfl ?_
 conv=>whnf
 refine .mk (by simp only[nG,og,Rw.len]; omega) ?_
 conv=>whnf
 exact ak.elem (ty:=3) rfl
theorem ah.lend{P:Program}{dr:Bool}{f:FuncId}{args args':List V}{res:V}{h:Hz}{n:Nat}{K:V->Hz->Prop}{KW:Nat->V->Hz->Prop}(S:aj P f args' res)(hs:T.dM (fun _=>True) h.ay (V.bn args') (V.bn args))(hh:res.aG.hard=true)(hr:res.free=true)(hK:K res h):ah P dr none f args h n K KW :=
 ⟨.inl (qY.lend S hs hh (fun _ e=>by cases e) ⟨res,h,rfl,rfl,fun _=>⟨rfl,V.qK res hr⟩,hK⟩)⟩
theorem uX(l:List Elem):T.bC (l.map eG)=true:=by
 rw[fU]; intro t ht; obtain⟨x,_,rfl⟩:=List.mem_map.1 ht; rfl
theorem dN.of_eq{a b:List T}(h:a=b):dN a b:=by subst h; exact .refl _
theorem ah.Yt{P:Program}{dr b:Bool}{f:FuncId}{args args':List V}{res:V}{h:Hz}{n:Nat}{K:V->Hz->Prop}{KW:Nat->V->Hz->Prop}(S:b=true->aj P f args' res)(hs:b=true->T.dM (fun _=>True) h.ay (V.bn args') (V.bn args))(hh:res.aG.hard=true)(hr:res.free=true)(hK:K res h):ah P dr (some b) f args h n K KW :=
 ⟨.inl (.inl ⟨res,fun e=>qY.lend (S e) (hs e) hh (fun _ e=>by cases e) ⟨rfl,rfl⟩,hr,hK⟩)⟩
abbrev eF(l:List Elem):OV:=.row 54 3 (.elems l) []
theorem ae9{h:Hz}{j:Nat}{l:List Elem}{Z:Nat->Prop}(hz:Z j)(q:h.get j=some (eF l)):T.sub Z h.ay (V.row 3 false (.elems l)).aG (V.own j).aG:=by
 show T.sub Z h.ay (.sl 3 false (l.map eG)) (.own j)
 simp only[T.sub]
 refine⟨trivial,hz,uX l,by decide,54,?_⟩
 have:=aZ q; simpa [OV.aF,Rw.bn,V.bn] using this
theorem ak.VD{h:Hz}{j:Nat}{l:List Elem}(q:h.get j=some (eF l)):ak (.row 3 false (.elems l)) (.own j) h:=⟨ae9 trivial q⟩
def tX(l:List Elem)(e:Elem):Nat->Nat
 |0=>0
 |i+1=>if 0<iK (l.getD i default) e then tX l e i else i+1
def rP(l:List Elem)(e:Elem):Bool:=decide (0<tX l e l.length)&&decide (iK (l.getD (tX l e l.length-1) default) e=0)
def nC(l:List Elem)(e:Elem):List Elem:=if rP l e=true then l else l.take (tX l e l.length)++e::l.drop (tX l e l.length)
theorem G5{l:List Elem}{e:Elem}: ∀ i,tX l e i<=i:=by
 intro i
 induction i with
 |zero=>exact Nat.le_refl _
 |succ i ih=>simp only[tX]; split<;>omega
theorem Yv(i:Nat):((i:Int)-1).toNat=i-1:=by omega
theorem gtP{l:List Elem}{e:Elem}{i:Nat}:(decide ((0:Int)<i)&&decide (0<iK (l.getD ((i:Int)-1).toNat default) e))=true↔0<i/\0<iK (l.getD (i-1) default) e:=by
 rw[Yv,Bool.and_eq_true,decide_eq_true_eq,decide_eq_true_eq]
 exact⟨fun h=>⟨by omega,h.2⟩,fun h=>⟨by omega,h.2⟩⟩
theorem eqP{l:List Elem}{e:Elem}{i:Nat}:(decide ((0:Int)<i)&&(iK (l.getD ((i:Int)-1).toNat default) e==0))=(decide (0<i)&&decide (iK (l.getD (i-1) default) e=0)):=by
 rw[Yv]
 have h1:decide ((0:Int)<i)=decide (0<i):=decide_eq_decide.2 (by omega)
 rw[h1]; rfl
abbrev h1(l:List Elem):Hz:=[(0,some (eF l))]
def Rk(l:List Elem)(k:Nat):List Elem:=l.take k++l.getD k default::l.drop k
theorem Ut(l:List Elem)(k:Nat):(Rk l k).length=l.length+1:=by simp[Rk]; omega
theorem Yw{l:List Elem}{k:Nat}(h:k<=l.length)(x:Elem):(Rk l k).set k x=l.take k++x::l.drop k:=by
 unfold Rk
 rw[List.set_append_right _ _ (by simp; omega)]
 simp[Nat.min_eq_left h]
theorem abg{l:List Elem}{k:Nat}(h:k<l.length):(Rk l (k+1)).getD k default=l.getD k default:=by
 unfold Rk
 rw[List.getD_eq_getElem?_getD,List.getElem?_append_left (by simp; omega),List.getElem?_take_of_lt (by omega),List.getD_eq_getElem?_getD]
theorem Yx{l:List Elem}{k:Nat}(h:k<l.length):(Rk l (k+1)).set (k+1) ((Rk l (k+1)).getD k default)=Rk l k:=by
 rw[Yw (by omega),abg h]
 unfold Rk
 rw[List.take_add_one,List.append_assoc,dO default h]
 congr 1
 simp[h]
theorem zero_sub(l:List Elem):dN (eF (Rk l l.length)).aF.l (OV.row 54 3 (.elems l) [V.agg (V4 [T.int 0,T.nil])]).aF.l:=by
 intro Z h
 have e:(eF (Rk l l.length)).aF.l=l.map eG++[eG default]:=by
  simp[OV.aF,Rw.bn,V.bn,Rk]
 rw[e]
 refine zM (dS _) ?_
 refine⟨?_,trivial⟩
 show T.sub Z h (.agg [.int 0,.sl 0 false []]) (.agg [.int 0,.sl 0 true []])
 simp[T.sub,T.dM]
theorem adA{l:List Elem}{n:Nat}(hn:0<n):Hz.get n (h1 l)=none:=by
 show(bif Nat.beq 0 n then some (eF l) else none)=none
 rw[wF,if_neg (by omega)]
theorem S.pJ(l:List Elem)(e:Elem)(n:Nat)(hn:0<n)(hl:l.length<2^30)(hs:gq l)(he:e.counts.length<2^30) :
  aN Tryz.prog 53 (V.bn [.own 0,.dat (.elem e)]) (h1 l).ay n (fun t hp=>(rP l e=true/\t= .own 0/\hp=(h1 l).ay)\/(rP l e=false/\t= .own n/\hp=Hz.ay [(n,some (eF (nC l e)))])):=by
 refine oI.of (nx:=1) Bd.pJ (by simp) ?_ rfl rfl ?_
 ·cases h:rP l e
  ·exact⟨_,_,.inr ⟨rfl,rfl,rfl⟩⟩
  ·exact⟨_,_,.inl ⟨rfl,rfl,rfl⟩⟩
 conv=>whnf
 refine aI.same [0,3] (fun i:Nat=>[(5,.int i)]) (fun i=>i<=l.length/\tX l e l.length=tX l e i) (fun i=>i) l.length rfl (by decide) rfl (fun _=>rfl) ⟨by omega,rfl⟩ ⟨⟨_,rfl,rfl⟩,trivial⟩ ?_
 conv=>whnf
 refine⟨rfl,?_⟩
 rintro i ⟨hi,hpos⟩
 conv=>whnf
 repeat(refine VC.mk (by first|exact fun h=>⟨h,h⟩|(intro h; (repeat' apply And.intro)<;>first|exact h|omega|(simp only[Rw.qp]; omega)|(simp only[Rw.rng]; omega))|(simp only[Rw.rng] at *; first|omega|(simp_all; done)|(simp_all; omega))) ?_; conv=>whnf)
 refine ah.iD (fun _=>S.lH _ _ (by first|exact hs.get _|(have:=hs.get ((i:Int)-1).toNat; omega)) (by omega)) rfl ?_
 conv=>whnf
 repeat(refine VC.mk id ?_; conv=>whnf)
 refine⟨fun h3=>?_,fun h3=>?_⟩
 ·rw[gtP] at h3
  obtain⟨h4,h5⟩:=h3
  conv=>whnf
  refine .mk (by simp only[okI] at *; first|omega|(simp_all; done)|(simp_all; omega)) ?_
  conv=>whnf
  refine⟨i-1,⟨by omega,?_⟩,by omega,⟨⟨_,rfl,?_⟩,trivial⟩,?_,rfl⟩
  ·rw[hpos]
   obtain⟨k,rfl⟩: ∃ k,i=k+1:=⟨i-1,by omega⟩
   simp only[tX,Nat.add_sub_cancel] at h5 ⊢
   rw[if_pos h5]
  ·show T.int ((i-1:Nat):Int)=T.int ((i:Int)-1)
   congr 2; omega
  ·repeat' (first|exact trivial|exact⟨_,rfl,rfl⟩|constructor)
 ·rw[Bool.eq_false_iff,ne_eq,gtP] at h3
  have hp:tX l e l.length=i:=by
   rw[hpos]
   cases i with
   |zero=>rfl
   |succ k=>simp only[tX]; rw[if_neg (fun h=>h3 ⟨by omega,by simpa using h⟩)]
  clear hpos h3
  subst hp
  conv=>whnf
  repeat(refine VC.mk (by first|exact fun h=>⟨h,h⟩|(intro h; (repeat' apply And.intro)<;>first|exact h|omega|(simp only[Rw.qp]; omega)|(simp only[Rw.rng]; omega))|(simp only[Rw.rng] at *; first|omega|(simp_all; done)|(simp_all; omega))) ?_; conv=>whnf)
  refine ah.iD (fun _=>S.lH _ _ (hs.get _) (by omega)) rfl ?_
  conv=>whnf
  repeat(refine VC.mk id ?_; conv=>whnf)
  rw[eqP]
  refine⟨fun h3=>?_,fun h3=>?_⟩
  ·conv=>whnf
   refine ny.one (c:=0) (j:=0) (o:=eF l) (t:=.own 0) rfl rfl rfl (fun _=>rfl) (.inl rfl) rfl (.eq rfl) (.inl ⟨h3,rfl,rfl⟩)
  ·conv=>whnf
   repeat(refine VC.mk (by first|(show(l.length+(0+1))*32<=140737488355328/\l.length+(0+1)<=1152921504606846976; omega)|(show okI ((l.length:Int)+((0+1:Nat):Int)-1); simp only[okI]; omega)) ?_; conv=>whnf)
   refine aI.objs 3 [3,5] (fun k:Nat=>[(0,.own 2),(6,.int k)]) (fun k=>[(1,.box 54 3 (.dat (.elem e))),(2,eF (Rk l k))]) (fun k=>tX l e l.length<=k/\k<=l.length) (fun k=>k) l.length [1,33] rfl (by decide) (fun _=>rfl) ⟨hi,Nat.le_refl _⟩ ?_ ?_ ?_
   ·refine⟨⟨_,rfl,.eq rfl⟩,⟨_,rfl,.eq ?_⟩,trivial⟩
    show T.int (l.length:Int)=T.int ((l.length:Int)+((0+1:Nat):Int)-1)
    congr 2; omega
   ·refine⟨⟨rfl,nofun,rfl,rfl,rfl,_,rfl,rfl,rfl,.refl _⟩,⟨rfl,nofun,rfl,rfl,rfl,_,rfl,rfl,rfl,zero_sub l⟩,trivial⟩
   ·conv=>whnf
    refine⟨⟨⟨_,rfl,.eq rfl⟩,⟨_,rfl,.eq rfl⟩,trivial⟩,rfl,?_⟩
    rintro k ⟨hk1,hk2⟩
    conv=>whnf
    refine⟨fun h4=>?_,fun h4=>?_⟩
    ·have h5:tX l e l.length<k:=by simpa using h4
     obtain⟨k,rfl⟩: ∃ j,k=j+1:=⟨k-1,by omega⟩
     have e1:((((k+1:Nat):Int))-1).toNat=k:=by omega
     have e2:(((k+1:Nat):Int)).toNat=k+1:=rfl
     conv=>whnf
     repeat(refine VC.mk (by simp only[Rw.rng,Ut,okI]; omega) ?_; conv=>whnf)
     refine⟨k,[1,2],⟨by omega,by omega⟩,by omega,⟨⟨_,rfl,.eq rfl⟩,⟨_,rfl,.eq ?_⟩,trivial⟩,⟨⟨_,rfl,.eq rfl⟩,⟨_,rfl,.eq rfl⟩,trivial⟩,⟨rfl,nofun,rfl,rfl,rfl,_,rfl,rfl,rfl,.refl _⟩,⟨rfl,nofun,rfl,rfl,rfl,_,rfl,rfl,rfl,?_⟩,trivial⟩
     ·show T.int (k:Int)=T.int (((k+1:Nat):Int)-1)
      congr 2; omega
     ·rw[e1,e2,Yx (by omega)]; exact .refl _
    ·have hk:k=tX l e l.length:=by
      have: ¬ tX l e l.length<k:=by simpa using h4
      omega
     clear h4
     conv=>whnf
     refine ah.pure (S.oJ e (by omega)) rfl ?_
     conv=>whnf
     repeat(refine VC.mk (by simp only[Rw.rng,Ut]; omega) ?_; conv=>whnf)
     refine ny.one (c:=n) (j:=2) (o:=eF ((Rk l k).set (tX l e l.length:Int).toNat e)) (t:=.own n) rfl rfl rfl ?_ (.inr rfl) rfl (.eq rfl) (.inr ⟨h3,rfl,?_⟩)
     ·rw[adA hn]; intro h; cases h
     ·have:(Rk l k).set (tX l e l.length:Int).toNat e=nC l e:=by
       rw[nC,if_neg (by rw[show rP l e=false from h3]; simp)]
       rw[hk]; exact Yw (by omega) e
      rw[this]
theorem Yy{l:List Elem}{e:Elem}:(nC l e).length<=l.length+1:=by
 unfold nC; split
 ·omega
 ·simp; have:=G5 (l:=l) (e:=e) l.length; omega
theorem Yz{l:List Elem}{e x:Elem}(h:x∈nC l e):x=e\/x∈l:=by
 unfold nC at h; split at h
 ·exact .inr h
 ·simp only[List.mem_append,List.mem_cons] at h
  rcases h with h|h|h
  ·exact .inr (List.mem_of_mem_take h)
  ·exact .inl h
  ·exact .inr (List.mem_of_mem_drop h)
theorem Ya: ∀ (l acc:List Elem),(l.foldl nC acc).length<=acc.length+l.length:=by
 intro l
 induction l with
 |nil=>intro acc; simp
 |cons x l ih=>intro acc; simp only[List.foldl_cons,List.length_cons]; have:=ih (nC acc x); have:=Yy (l:=acc) (e:=x); omega
theorem Yb: ∀ (l acc:List Elem) (x:Elem),x∈l.foldl nC acc->x∈acc\/x∈l:=by
 intro l
 induction l with
 |nil=>intro acc x h; exact .inl h
 |cons y l ih =>
  intro acc x h
  simp only[List.foldl_cons] at h
  rcases ih _ _ h with h|h
  ·rcases Yz h with h|h
   ·exact .inr (by simp[h])
   ·exact .inl h
  ·exact .inr (by simp[h])
def tV(l:List Elem):Nat->List Elem
 |0=>[]
 |n+1=>if n=0\/l.getD n default≠l.getD (n-1) default then tV l n++[l.getD n default] else tV l n
theorem GZ(l:List Elem): ∀ n,(tV l n).length<=n:=by
 intro n
 induction n with
 |zero=>exact Nat.le_refl _
 |succ n ih =>
  simp only[tV]; split
  ·simp; omega
  ·omega
theorem aaW{l:List Elem}{x:Elem}: ∀ {n},x∈tV l n->n<=l.length->x∈l:=by
 intro n
 induction n with
 |zero=>intro h; cases h
 |succ n ih =>
  intro h hn
  simp only[tV] at h
  split at h
  ·rcases List.mem_append.1 h with h|h
   ·exact ih h (by omega)
   ·rw[List.mem_singleton] at h; subst h
    simp[show n<l.length by omega]
  ·exact ih h (by omega)
abbrev zeroV:V:=.agg [.int 0,.row 0 true .nil]
def mid(l:List Elem)(j:Nat):List Elem:=tV l j++l.drop (tV l j).length
theorem aaV{l:List Elem}{j:Nat}(h:j<=l.length):(mid l j).length=l.length:=by
 have:=GZ l j
 simp[mid]; omega
theorem Ui{l:List Elem}{j i:Nat}(h:(tV l j).length<=i):(mid l j).getD i default=l.getD i default:=by
 unfold mid
 rw[List.getD_eq_getElem?_getD,List.getElem?_append_right h,List.getElem?_drop,List.getD_eq_getElem?_getD]
 congr 2; omega
theorem aaX{l:List Elem}{j:Nat}(hj:j<l.length)(h:j=0\/l.getD j default≠l.getD (j-1) default):(mid l j).set (tV l j).length (l.getD j default)=mid l (j+1):=by
 have hl:=GZ l j
 have e:tV l (j+1)=tV l j++[l.getD j default]:=by simp only[tV]; rw[if_pos h]
 unfold mid
 rw[e,List.set_append_right _ _ (Nat.le_refl _),Nat.sub_self,dO default (show(tV l j).length<l.length by omega)]
 simp
theorem OU{l:List Elem}{j:Nat}(h0:j≠0)(h:l.getD j default=l.getD (j-1) default):tV l (j+1)=tV l j:=by
 simp only[tV]; rw[if_neg]; intro q; rcases q with q|q
 ·exact h0 q
 ·exact q h
theorem Ij{l:List Elem}{k:Nat}(hk:k<=l.length)(h: ∀ i,0<i->i<k->l.getD i default≠l.getD (i-1) default):tV l k=l.take k:=by
 induction k with
 |zero=>rfl
 |succ k ih =>
  simp only[tV]
  rw[if_pos,ih (by omega) fun i h1 h2=>h i h1 (by omega),List.take_add_one]
  ·simp[show k<l.length by omega]
  ·by_cases h0:k=0
   ·exact .inl h0
   ·exact .inr (h k (by omega) (by omega))
theorem OW(l:List Elem)(m nx:Nat):(OV.row 54 3 (.elems l) (List.replicate m zeroV)).good nx=true:=by
 have h1:Gf 3 (List.replicate m zeroV)=true:=by
  induction m with
  |zero=>rfl
  |succ m ih=>simp only[List.replicate_succ,Gf,ih,Bool.and_true]; rfl
 have h2:T.JX nx (V.bn (List.replicate m zeroV))=true:=by
  clear h1
  induction m with
  |zero=>rfl
  |succ m ih=>simp only[List.replicate_succ,V.bn,T.JX,ih,Bool.and_true]; rfl
 simp only[OV.good,h1,h2]; rfl
theorem MS(l:List Elem)(m:Nat):(OV.row 54 3 (.elems l) (List.replicate m zeroV)).Rj=true:=by
 simp only[OV.Rj]
 induction m with
 |zero=>rfl
 |succ m ih=>simp only[List.replicate_succ,V.bC,ih,Bool.and_true]; rfl
def ru(l:List Elem):List Elem:=tV l l.length
theorem S.V5:aj Tryz.prog 140 [.raw (.lit (.int .u64 0))] (.int 0):=by
 refine aj.of Bd.mG (by simp) rfl rfl ?_
 conv=>whnf
 refine Fork.mk (fun q=>absurd (q.symm.trans ((rfl:decide ((4294967296:Int)<=0)=false))).symm Bool.false_ne_true) (fun _=>?_)
 conv=>whnf
 refine Fork.mk (fun q=>absurd (q.symm.trans ((rfl:decide ((65536:Int)<=0)=false))).symm Bool.false_ne_true) (fun _=>?_)
 conv=>whnf
 refine Fork.mk (fun q=>absurd (q.symm.trans ((rfl:decide ((256:Int)<=0)=false))).symm Bool.false_ne_true) (fun _=>?_)
 conv=>whnf
 refine .mk (by omega) ?_
 conv=>whnf
 repeat(refine VC.mk (by constructor<;>decide) ?_; conv=>whnf)
 exact ak.int (by decide)
theorem S.bitsLen:aj Tryz.prog 110 [.raw (.lit (.int .u64 0))] (.int 0):=by
 refine aj.of Bd.oN (by simp) rfl rfl ?_
 conv=>whnf
 refine Fork.mk (fun q=>absurd (q.symm.trans ((rfl:false=false))).symm Bool.false_ne_true) (fun _=>?_)
 conv=>whnf
 refine ah.pure (S.V5) rfl ?_
 conv=>whnf
 exact ak.int rfl
theorem S.RY(n:Nat):aN Tryz.prog 131 (V.bn [.own 0,.int 0,.int 0,.fn 45 []]) (h1 []).ay n (fun t hp=>t= .fP []/\hp=(h1 []).ay):=by
 refine oI.of (nx:=1) (h0:=h1 []) Bd.bH (by simp) ⟨_,_,rfl,rfl⟩ rfl rfl ?_
 conv=>whnf
 refine .mk (by simp only[okI] at *; first|omega|(simp_all; done)|(simp_all; omega)) ?_
 conv=>whnf
 refine aI.times 1 rfl ?_
 conv=>whnf
 refine Fork.mk (fun q=>absurd (q.symm.trans ((rfl:decide ((0:Int)+1<0)=false))).symm Bool.false_ne_true) (fun _=>?_)
 conv=>whnf
 exact ny.one (c:=0) (j:=0) (o:=eF []) (t:=.fP []) rfl rfl rfl (fun _=>rfl) (.inl rfl) trivial (.eq rfl) ⟨rfl,rfl⟩
theorem S.ags(n:Nat):aN Tryz.prog 109 (V.bn [.own 0,.int 0,.int 0,.int 0,.fn 45 []]) (h1 []).ay n (fun t hp=>t= .fP []/\hp=(h1 []).ay):=by
 refine oI.of (nx:=1) (h0:=h1 []) Bd.cu (by simp) ⟨_,_,rfl,rfl⟩ rfl rfl ?_
 conv=>whnf
 refine aI.times 1 rfl ?_
 conv=>whnf
 refine .mk (by simp only[okI] at *; first|omega|(simp_all; done)|(simp_all; omega)) ?_
 conv=>whnf
 refine Fork.mk (fun _=>?_) (fun q=>absurd (q.symm.trans ((rfl:decide ((0:Int)-0<=12)=true))) Bool.false_ne_true)
 conv=>whnf
 refine ah.heap (S.RY _) (fun t hp ⟨e1,e2⟩=>⟨.fP [],h1 [],e1,e2,?_⟩)
 conv=>whnf
 exact ny.one (c:=0) (j:=0) (o:=eF []) (t:=.fP []) rfl rfl rfl (fun _=>rfl) (.inl rfl) trivial (.eq rfl) ⟨rfl,rfl⟩
theorem S.abh(n:Nat):aN Tryz.prog 78 (V.bn [.own 0,.fn 45 []]) (h1 []).ay n (fun t hp=>t= .fP []/\hp=(h1 []).ay):=by
 refine oI.of (nx:=1) (h0:=h1 []) Bd.aS (by simp) ⟨_,_,rfl,rfl⟩ rfl rfl ?_
 conv=>whnf
 refine .mk (by simp only[List.length_nil]; omega) ?_
 conv=>whnf
 refine ah.pure (S.bitsLen) rfl ?_
 conv=>whnf
 refine ah.heap (S.ags _) (fun t hp ⟨e1,e2⟩=>⟨.fP [],h1 [],e1,e2,?_⟩)
 conv=>whnf
 exact ny.one (c:=0) (j:=0) (o:=eF []) (t:=.fP []) rfl rfl rfl (fun _=>rfl) (.inl rfl) trivial (.eq rfl) ⟨rfl,rfl⟩
theorem V6: ∀ a b:List Int,cmpL b a= -cmpL a b:=by
 intro a
 induction a with
 |nil=>intro b; cases b<;>rfl
 |cons x a ih =>
  intro b
  cases b with
  |nil=>rfl
  |cons y b =>
   simp only[cmpL]
   by_cases h1:x<y
   ·have h2: ¬ y<x:=by omega
    simp[h1,h2]
   ·by_cases h2:y<x
    ·simp[h1,h2]
    ·simp[h1,h2,ih]
theorem pX(a b:Elem):iK b a= -iK a b:=by
 simp only[iK]
 by_cases h1:a.value<b.value
 ·have h2: ¬ b.value<a.value:=by omega
  simp[h1,h2]
 ·by_cases h2:b.value<a.value
  ·simp[h1,h2]
  ·simp[h1,h2,V6 a.counts b.counts]
theorem RZ: ∀ {a b c:List Int},cmpL a b<0->cmpL b c<0->cmpL a c<0:=by
 intro a
 induction a with
 |nil =>
  intro b c h1 h2
  cases b with
  |nil=>simp[cmpL] at h1
  |cons y b=>cases c with
   |nil=>simp[cmpL] at h2
   |cons z c=>simp[cmpL]
 |cons x a ih =>
  intro b c h1 h2
  cases b with
  |nil=>simp[cmpL] at h1
  |cons y b=>cases c with
   |nil=>simp[cmpL] at h2
   |cons z c =>
    simp only[cmpL] at h1 h2 ⊢
    by_cases a1:x<y
    ·by_cases a2:y<z
     ·rw[if_pos (by omega)]; omega
     ·by_cases a3:z<y
      ·simp[a2,a3] at h2
      ·rw[if_pos (by omega)]; omega
    ·by_cases a4:y<x
     ·simp[a1,a4] at h1
     ·simp only[a1,a4,if_false] at h1
      have e:x=y:=by omega
      subst e
      by_cases a2:x<z
      ·simp[a2]
      ·by_cases a3:z<x
       ·simp[a2,a3] at h2
       ·simp only[a2,a3,if_false] at h2 ⊢
        exact ih h1 h2
theorem yR{a b c:Elem}(h1:iK a b<0)(h2:iK b c<0):iK a c<0:=by
 simp only[iK] at h1 h2 ⊢
 by_cases a1:a.value<b.value
 ·by_cases a2:b.value<c.value
  ·rw[if_pos (by omega)]; omega
  ·by_cases a3:c.value<b.value
   ·simp[a2,a3] at h2
   ·rw[if_pos (by omega)]; omega
 ·by_cases a4:b.value<a.value
  ·simp[a1,a4] at h1
  ·simp only[a1,a4,if_false] at h1
   by_cases a2:b.value<c.value
   ·rw[if_pos (by omega)]; omega
   ·by_cases a3:c.value<b.value
    ·simp[a2,a3] at h2
    ·simp only[a2,a3,if_false] at h2
     rw[if_neg (by omega),if_neg (by omega)]
     exact RZ h1 h2
theorem BI{a b c:Elem}(h1: ¬ iK b a<0)(h2: ¬ iK c b<0): ¬ iK c a<0:=by
 rw[pX a b] at h1
 rw[pX b c] at h2
 rw[pX a c]
 by_cases e1:iK a b=0
 ·rw[kX] at e1; subst e1; exact h2
 ·by_cases e2:iK b c=0
  ·rw[kX] at e2; subst e2; exact h1
  ·have:=yR (a:=a) (b:=b) (c:=c) (by omega) (by omega)
   omega
def D7(l:List Elem):Prop:=l.Pairwise fun a b=> ¬ iK b a<0
def Si(e:Elem):List Elem->List Elem
 |[]=>[e]
 |x::r=>if iK x e<0 then x::Si e r else e::x::r
def qJ(l:List Elem):List Elem:=l.foldr Si []
theorem Lm(e:Elem): ∀ l,(Si e l).Perm (e::l):=by
 intro l
 induction l with
 |nil=>exact .refl _
 |cons x r ih =>
  simp only[Si]; split
  ·exact((ih.cons x).trans (.swap e x r))
  ·exact .refl _
theorem vG: ∀ l,(qJ l).Perm l:=by
 intro l
 induction l with
 |nil=>exact .refl _
 |cons x r ih=>exact(Lm x _).trans (ih.cons x)
theorem YA(e:Elem): ∀ l,D7 l->D7 (Si e l):=by
 intro l
 induction l with
 |nil=>intro _; simp[D7,Si]
 |cons x r ih =>
  intro h
  have h':=h
  simp only[D7,List.pairwise_cons] at h
  simp only[Si]
  split
  ·rename_i hlt
   simp only[D7,List.pairwise_cons]
   refine⟨fun y hy=>?_,ih h.2⟩
   rcases List.mem_cons.1 ((Lm e r).mem_iff.1 hy) with rfl|hy
   ·rw[pX]; omega
   ·exact h.1 y hy
  ·rename_i hge
   simp only[D7,List.pairwise_cons]
   refine⟨fun y hy=>?_,h⟩
   rcases List.mem_cons.1 hy with rfl|hy
   ·exact hge
   ·exact BI hge (h.1 y hy)
theorem AV: ∀ l,D7 (qJ l):=by
 intro l
 induction l with
 |nil=>simp[D7,qJ]
 |cons x r ih=>exact YA x _ ih
theorem Sj: ∀ {a b:List Elem},a.Perm b->D7 a->D7 b->a=b:=by
 intro a
 induction a with
 |nil=>intro b hp _ _; exact hp.nil_eq
 |cons x a ih =>
  intro b hp ha hb
  cases b with
  |nil=>exact absurd hp.symm (by simp)
  |cons y b =>
   have h1:=ha; have h2:=hb
   simp only[D7,List.pairwise_cons] at h1 h2
   have hxy:x=y:=by
    by_cases e:x=y
    ·exact e
    ·have hx:x∈b:=by
      rcases List.mem_cons.1 (hp.mem_iff.1 (by simp:x∈x::a)) with h|h
      ·exact absurd h e
      ·exact h
     have hy:y∈a:=by
      rcases List.mem_cons.1 (hp.mem_iff.2 (by simp:y∈y::b)) with h|h
      ·exact absurd h.symm e
      ·exact h
     have g1:=h1.1 y hy
     have g2:=h2.1 x hx
     rw[pX] at g1
     have:iK x y=0:=by omega
     exact kX.1 this
   subst hxy
   rw[ih (List.Perm.cons_inv hp) h1.2 h2.2]
def BJ:T->Elem
 | .agg [.lit (.int _ v),.sl _ _ l]=>⟨v,l.map wZ⟩
 |_=>default
theorem G7(e:Elem):BJ (eG e)=e:=by
 obtain⟨v,c⟩:=e
 simp only[eG,BJ]
 congr 1
 rw[List.map_map]
 conv=>rhs; rw[<- List.map_id c]
 exact List.map_congr_left fun x _=>rfl
theorem S.agt{x y:Elem}(hx:x.counts.length<2^40)(hy:y.counts.length<2^40):qL Tryz.prog 45 [eG x,eG y] (.int (iK x y)):=S.fZ x y hx hy
theorem YB(l:List Elem):(h1 l).ay=upd no 0 (some ⟨54,3,l.map eG⟩):=by
 show Hz.ay ((0,some (eF l))::[])=_
 rw[bQ]
 simp[eF,OV.aF,Rw.bn,V.bn]; rfl
theorem adB: ∀ w,(isAgg 54).run Tryz.prog w= .ok true w:=fun w=>rY (k:=3) (by kernel_rfl)
theorem afa: ∀ w,(Go.sizeOf 54).run Tryz.prog w= .ok 2 w:=fun w=>gY (k:=3) (by kernel_rfl)
theorem S.SortFunc(l:List Elem)(n:Nat)(hl:l.length<2^30)(hs:gq l) :
  aN Tryz.prog 78 (V.bn [.own 0,.fn 45 []]) (h1 l).ay n (fun t hp=>t= .fP []/\hp=(h1 (qJ l)).ay):=by
 by_cases hne:l=[]
 ·subst hne
  exact S.abh n
 ·have hx: ∀ t∈l.map eG,∃ e∈l,t=eG e:=fun t ht=>by obtain⟨e,he,rfl⟩:=List.mem_map.1 ht; exact⟨e,he,rfl⟩
  have H:=aN.sort (n:=n) Tryz.laySort 2 (by decide) adB afa (by exact Bd.aS.cl) (g:=45) (by decide) (by exact Bd.fZ.cl) (l:=l.map eG) (by simpa using hne)
   (fun t ht=>by obtain⟨e,_,rfl⟩:=hx t ht; rfl) (uX l) (by simp; omega) (fun x y=>iK (BJ x) (BJ y))
   (fun t ht=>by rw[kX.2 rfl]; decide)
   (fun x _ y _ z _ h1 h2=>yR h1 h2)
   (fun x _ y _ z _ h1 h2=>BI h2 h1)
   (fun x hx1 y hy1=>by
    obtain⟨a,ha,rfl⟩:=hx x hx1
    obtain⟨b,hb,rfl⟩:=hx y hy1
    simp only[G7]; exact S.agt (hs a ha) (hs b hb))
   (by decide) ⟨(qJ l).map eG,(vG l).map eG,by
    rw[List.pairwise_map]; simp only[G7]; exact AV l⟩ (h:=(h1 l).ay) (i:=0) (ty:=54) (by rw[YB]; rfl)
  refine aN.mono H ?_
  rintro t hp ⟨rfl,l',hp',hpw,rfl⟩
  refine⟨rfl,?_⟩
  have hl':l'=(l'.map BJ).map eG:=by
   rw[List.map_map]
   conv=>lhs; rw[<- List.map_id l']
   refine List.map_congr_left fun t ht=>?_
   obtain⟨e,_,rfl⟩:=hx t (hp'.mem_iff.1 ht)
   simp[G7]
  have hperm:(l'.map BJ).Perm l:=by
   have:=hp'.map BJ
   rw[List.map_map] at this
   have e:l.map (BJ ∘ eG)=l:=by
    conv=>rhs; rw[<- List.map_id l]
    exact List.map_congr_left fun e _=>G7 e
   rw[e] at this; exact this
  have hsrt:D7 (l'.map BJ):=by
   unfold D7; rw[List.pairwise_map]; exact hpw
  have heq:l'.map BJ=qJ l:=Sj (hperm.trans (vG l).symm) hsrt (AV l)
  rw[YB,YB]
  rw[hl',heq]
  funext j
  simp only[upd]; split<;>rfl
def sS(l:List Elem):List Elem:=ru (qJ l)
theorem E5(l:List Elem):(qJ l).length=l.length:=(vG l).length_eq
theorem OX{l:List Elem}(h:gq l):gq (qJ l):=fun e he=>h e ((vG l).mem_iff.1 he)
theorem ak.ado{h:Hz}{j m:Nat}{l:List Elem}(q:h.get j=some (.row 54 3 (.elems l) (List.replicate m zeroV))):ak (.row 3 false (.elems l)) (.kR j 0 l.length) h:=⟨by
 show T.sub (fun _=>True) h.ay (.sl 3 false (l.map eG)) (.kR j 0 l.length)
 simp only[T.sub]
 refine⟨trivial,trivial,uX l,by decide,54,l.map eG++V.bn (List.replicate m zeroV),?_,by simp,by simp⟩
 exact aZ q⟩
def SS(l:List Elem):Prop:=l.Pairwise fun a b=>iK a b<0
theorem E8: ∀ {a b:List Elem},SS a->SS b->(∀ x,x∈a↔x∈b)->a=b:=by
 intro a
 induction a with
 |nil =>
  intro b _ _ h
  cases b with
  |nil=>rfl
  |cons y b=>exact absurd ((h y).2 (by simp)) (by simp)
 |cons x a ih =>
  intro b ha hb h
  cases b with
  |nil=>exact absurd ((h x).1 (by simp)) (by simp)
  |cons y b =>
   simp only[SS,List.pairwise_cons] at ha hb
   have hself: ∀ z:Elem,¬ iK z z<0:=fun z=>by rw[kX.2 rfl]; decide
   have hxy:x=y:=by
    rcases List.mem_cons.1 ((h x).1 (by simp)) with e|hx
    ·exact e
    ·rcases List.mem_cons.1 ((h y).2 (by simp)) with e|hy
     ·exact e.symm
     ·exact absurd (yR (ha.1 y hy) (hb.1 x hx)) (hself x)
   subst hxy
   rw[ih ha.2 hb.2 fun z=>?_]
   constructor
   ·intro hz
    rcases List.mem_cons.1 ((h z).1 (by simp[hz])) with e|h'
    ·subst e; exact absurd (ha.1 z hz) (hself z)
    ·exact h'
   ·intro hz
    rcases List.mem_cons.1 ((h z).2 (by simp[hz])) with e|h'
    ·subst e; exact absurd (hb.1 z hz) (hself z)
    ·exact h'
theorem Lp{l:List Elem}(hs:D7 l): ∀ n,n<=l.length->SS (tV l n)/\(∀ x,x∈tV l n↔x∈l.take n)/\(∀ x∈tV l n,n<l.length-> ¬ iK (l.getD n default) x<0):=by
 intro n
 induction n with
 |zero=>intro _; exact⟨by simp[SS,tV],by simp[tV],by simp[tV]⟩
 |succ n ih =>
  intro hn
  obtain⟨h1,h2,h3⟩:=ih (by omega)
  have hnl:n<l.length:=by omega
  have hmono: ∀ i j,i<=j->j<l.length-> ¬ iK (l.getD j default) (l.getD i default)<0:=by
   intro i j hij hj
   by_cases e:i=j
   ·subst e; rw[kX.2 rfl]; decide
   ·have:=List.pairwise_iff_getElem.1 hs i j (by omega) hj (by omega)
    simpa [hj,show i<l.length by omega] using this
  have htake: ∀ x,x∈l.take n-> ∃ i,i<n/\l.getD i default=x:=by
   intro x hx
   rw[List.mem_take_iff_getElem] at hx
   obtain⟨i,hi,e⟩:=hx
   exact⟨i,by omega,by rw[<- e]; simp[show i<l.length by omega]⟩
  have hlast:l.take (n+1)=l.take n++[l.getD n default]:=by
   rw[List.take_add_one]; simp[hnl]
  simp only[tV]
  split
  ·rename_i hc
   refine⟨?_,?_,?_⟩
   ·simp only[SS,List.pairwise_append]
    refine⟨h1,by simp,fun x hx y hy=>?_⟩
    rw[List.mem_singleton] at hy; subst hy
    have hge:=h3 x hx hnl
    rw[pX] at hge
    have hne:iK x (l.getD n default)≠0:=by
     intro e
     rw[kX] at e
     rcases hc with hc|hc
     ·subst hc; simp[tV] at hx
     ·obtain⟨i,hi,hix⟩:=htake x ((h2 x).1 hx)
      have g1:=hmono i (n-1) (by omega) (by omega)
      have g2:=hmono (n-1) n (by omega) hnl
      rw[hix,e] at g1
      rw[pX] at g1
      have:iK (l.getD n default) (l.getD (n-1) default)=0:=by omega
      exact hc (kX.1 this)
    omega
   ·intro x
    rw[hlast]
    simp only[List.mem_append,h2]
   ·intro x hx hn1
    rcases List.mem_append.1 hx with hx|hx
    ·obtain⟨i,hi,hix⟩:=htake x ((h2 x).1 hx)
     rw[<- hix]; exact hmono i (n+1) (by omega) hn1
    ·rw[List.mem_singleton] at hx; subst hx
     exact hmono n (n+1) (by omega) hn1
  ·rename_i hc
   have hc':n≠0/\l.getD n default=l.getD (n-1) default:=by
    constructor
    ·intro e; exact hc (.inl e)
    ·by_cases e:l.getD n default=l.getD (n-1) default
     ·exact e
     ·exact absurd (.inr e) hc
   refine⟨h1,fun x=>?_,fun x hx hn1=>?_⟩
   ·rw[hlast,h2]
    simp only[List.mem_append,List.mem_singleton]
    constructor
    ·exact .inl
    ·rintro(h|h)
     ·exact h
     ·rw[h,hc'.2]
      rw[List.mem_take_iff_getElem]
      exact⟨n-1,by omega,by simp[show n-1<l.length by omega]⟩
   ·obtain⟨i,hi,hix⟩:=htake x ((h2 x).1 hx)
    rw[<- hix]; exact hmono i (n+1) (by omega) hn1
theorem xH(l:List Elem):SS (sS l):=(Lp (AV l) _ (Nat.le_refl _)).1
theorem rH(l:List Elem)(x:Elem):x∈sS l↔x∈l:=by
 unfold sS ru
 rw[(Lp (AV l) _ (Nat.le_refl _)).2.1,List.take_length]
 exact(vG l).mem_iff
theorem V7{l:List Elem}{e:Elem}: ∀ i,i<=l.length->(∀ j,tX l e i<=j->j<i->0<iK (l.getD j default) e)/\(0<tX l e i-> ¬ 0<iK (l.getD (tX l e i-1) default) e):=by
 intro i
 induction i with
 |zero=>intro _; exact⟨fun j _ h=>by omega,fun h=>by simp[tX] at h⟩
 |succ i ih =>
  intro hi
  simp only[tX]
  split
  ·rename_i hc
   obtain⟨h1,h2⟩:=ih (by omega)
   refine⟨fun j hj hji=>?_,h2⟩
   by_cases e:j=i
   ·subst e; exact hc
   ·exact h1 j hj (by omega)
  ·rename_i hc
   exact⟨fun j h1 h2=>by omega,fun _=>by simpa using hc⟩
theorem IJ{l:List Elem}{e:Elem}(hs:SS l):SS (nC l e)/\ ∀ x,x∈nC l e↔x=e\/x∈l:=by
 obtain⟨h1,h2⟩:=V7 (l:=l) (e:=e) l.length (Nat.le_refl _)
 have hp:=G5 (l:=l) (e:=e) l.length
 have hlt: ∀ i j,i<j->j<l.length->iK (l.getD i default) (l.getD j default)<0:=by
  intro i j hij hj
  have:=List.pairwise_iff_getElem.1 hs i j (by omega) hj hij
  simpa [hj,show i<l.length by omega] using this
 unfold nC
 split
 ·rename_i hf
  simp only[rP,Bool.and_eq_true,decide_eq_true_eq] at hf
  refine⟨hs,fun x=>⟨.inr,?_⟩⟩
  rintro(rfl|h)
  ·have:=kX.1 hf.2
   rw[<- this]
   have hlt':tX l x l.length-1<l.length:=by omega
   simp[hlt']
  ·exact h
 ·rename_i hf
  generalize hpe:tX l e l.length=p at *
  have hle: ∀ i,i<p->iK (l.getD i default) e<0:=by
   intro i hi
   have hlast:iK (l.getD (p-1) default) e<0:=by
    have g1:=h2 (by omega)
    have g2:iK (l.getD (p-1) default) e≠0:=by
     intro e0
     apply hf
     simp only[rP,hpe,Bool.and_eq_true,decide_eq_true_eq]
     exact⟨by omega,e0⟩
    omega
   by_cases e0:i=p-1
   ·subst e0; exact hlast
   ·exact yR (hlt i (p-1) (by omega) (by omega)) hlast
  have hge: ∀ j,p<=j->j<l.length->iK e (l.getD j default)<0:=by
   intro j hj hjl
   have:=h1 j hj hjl
   rw[pX]; omega
  refine⟨?_,fun x=>?_⟩
  ·simp only[SS,List.pairwise_append,List.pairwise_cons]
   refine⟨hs.sublist (List.take_sublist _ _),⟨fun y hy=>?_,hs.sublist (List.drop_sublist _ _)⟩,fun x hx y hy=>?_⟩
   ·rw[List.mem_drop_iff_getElem] at hy
    obtain⟨j,hj,rfl⟩:=hy
    have:=hge (p+j) (by omega) (by omega)
    simpa [show p+j<l.length by omega] using this
   ·rw[List.mem_take_iff_getElem] at hx
    obtain⟨i,hi,rfl⟩:=hx
    have g1:=hle i (by omega)
    rw[show l.getD i default=l[i] by simp[show i<l.length by omega]] at g1
    rcases List.mem_cons.1 hy with rfl|hy
    ·exact g1
    ·rw[List.mem_drop_iff_getElem] at hy
     obtain⟨j,hj,rfl⟩:=hy
     have:=hlt i (p+j) (by omega) (by omega)
     simpa [show p+j<l.length by omega,show i<l.length by omega] using this
  ·simp only[List.mem_append,List.mem_cons]
   constructor
   ·rintro(h|h|h)
    ·exact .inr (List.mem_of_mem_take h)
    ·exact .inl h
    ·exact .inr (List.mem_of_mem_drop h)
   ·rintro(h|h)
    ·exact .inr (.inl h)
    ·rw[<- List.take_append_drop p l,List.mem_append] at h
     rcases h with h|h
     ·exact .inl h
     ·exact .inr (.inr h)
theorem RI: ∀ (l acc:List Elem),SS acc->SS (l.foldl nC acc)/\ ∀ x,x∈l.foldl nC acc↔x∈acc\/x∈l:=by
 intro l
 induction l with
 |nil=>intro acc h; exact⟨h,by simp⟩
 |cons y l ih =>
  intro acc h
  obtain⟨g1,g2⟩:=IJ (e:=y) h
  obtain⟨h1,h2⟩:=ih (nC acc y) g1
  refine⟨h1,fun x=>?_⟩
  simp only[List.foldl_cons]
  rw[h2,g2,List.mem_cons]
  constructor
  ·rintro((h|h)|h)
   ·exact .inr (.inl h)
   ·exact .inl h
   ·exact .inr (.inr h)
  ·rintro(h|h|h)
   ·exact .inl (.inr h)
   ·exact .inl (.inl h)
   ·exact .inr h
end Go.Proofs.YtajmbgljnaljiaaGreatDoor
