/-
 A part of the proof. No condition.
-/
import Derived.Test.YtiakcepnlcpanaaGreatDoorSb
import Derived.Test.YtiakcepnlcpanaaGreatDoorLf
import Derived.Test.YtiakcepnlcpanaaGreatDoorLe
import Derived.Test.YtiakcepnlcpanaaGreatDoorSc
namespace Go.Proofs.YtiakcepnlcpanaaGreatDoor
open Go.Ab Go.Proofs
set_option maxRecDepth 100000
def O4(a b:Int):Int:=if a<b then -1 else if b<a then 1 else 0
def cmpL:List Int->List Int->Int
 |[],[]=>0
 |[],_::_=> -1
 |_::_,[]=>1
 |x::a,y::b=>if x<y then -1 else if y<x then 1 else cmpL a b
def oK(a b:Elem):Int:=if a.value<b.value then -1 else if b.value<a.value then 1 else cmpL a.counts b.counts
theorem cO{α:Type}{l:List α}{i:Nat}(d:α)(h:i<l.length):l.drop i=l.getD i d::l.drop (i+1):=by
 rw[List.drop_eq_getElem_cons h]; simp[h]
theorem Jl{a b:List Int}{i:Nat}(ha:i<a.length)(hb:i<b.length) :
  cmpL (a.drop i) (b.drop i)=if a.getD i 0<b.getD i 0 then -1 else if b.getD i 0<a.getD i 0 then 1 else cmpL (a.drop (i+1)) (b.drop (i+1)):=by
 rw[cO 0 ha,cO 0 hb]; rfl
theorem BI{a b:List Int}{i:Nat}(hi:a.length<=i\/b.length<=i)(h1:i<=a.length)(h2:i<=b.length) :
  cmpL (a.drop i) (b.drop i)=if a.length<b.length then -1 else if b.length<a.length then 1 else 0:=by
 by_cases ha:a.length<=i
 ·have e:a.drop i=[]:=List.drop_eq_nil_of_le ha
  rw[e]
  by_cases hb:b.length<=i
  ·rw[List.drop_eq_nil_of_le hb,if_neg (by omega),if_neg (by omega)]; rfl
  ·rw[cO 0 (by omega),if_pos (by omega)]; rfl
 ·have hb:b.length<=i:=by omega
  rw[List.drop_eq_nil_of_le hb,cO 0 (by omega),if_neg (by omega),if_pos (by omega)]; rfl
theorem S.cmp_isNaN_int(a:Int):au Tryz.prog 102 [.int a] (.bool false):=by
 refine au.of Bd.cmp_isNaN_int (by simp) rfl rfl ?_
 conv=>whnf
 refine aA.bool ?_
 simp
theorem S.cmp_Compare_int(a b:Int):au Tryz.prog 71 [.int a,.int b] (.int (O4 a b)):=by
 refine au.of Bd.cmp_Compare_int (by simp) rfl rfl ?_
 conv=>whnf
 refine ah.pure (S.cmp_isNaN_int a) rfl ?_
 conv=>whnf
 refine ah.pure (S.cmp_isNaN_int b) rfl ?_
 conv=>whnf
 refine Fork.mk (fun h1=>by cases h1) (fun _=>?_)
 conv=>whnf
 refine Fork.mk (fun h1=>by cases h1) (fun _=>?_)
 conv=>whnf
 refine⟨fun h1=>?_,fun h1=>?_⟩
 ·conv=>whnf
  exact aA.int (by simp only[decide_eq_true_eq] at h1; simp[O4,h1])
 ·conv=>whnf
  simp only[decide_eq_false_iff_not] at h1
  refine⟨fun h2=>?_,fun h2=>?_⟩
  ·conv=>whnf
   exact aA.int (by simp only[decide_eq_true_eq] at h2; simp[O4,h1,h2])
  ·conv=>whnf
   exact aA.int (by simp only[decide_eq_false_iff_not] at h2; simp[O4,h1,h2])
theorem S.Gw(a b:List Int)(ha:a.length<2^40)(hb:b.length<2^40):au Tryz.prog 72 [.row 0 false (.ints a),.row 0 false (.ints b)] (.int (cmpL a b)):=by
 refine au.of Bd.kM (by simp) rfl rfl ?_
 conv=>whnf
 refine aU.same [0,1,9,10] (fun i:Nat=>[(11,.int i)]) (fun i=>i<=a.length/\i<=b.length/\cmpL a b=cmpL (a.drop i) (b.drop i)) (fun i=>a.length-i) 0 rfl (by decide) rfl (fun _=>rfl) ⟨by omega,by omega,rfl⟩ ⟨⟨_,rfl,rfl⟩,trivial⟩ ?_
 conv=>whnf
 refine⟨rfl,?_⟩
 rintro i ⟨hi,hj,he⟩
 conv=>whnf
 refine⟨fun h3=>?_,fun h3=>?_⟩
 ·have hi':i<a.length:=by simpa using h3
  conv=>whnf
  refine .mk (by simp only[Rw.rng] at *; first|omega|(simp_all; done)|(simp_all; omega)) ?_
  conv=>whnf
  refine⟨fun h4=>?_,fun h4=>?_⟩
  ·conv=>whnf
   have hb':b.length<=i:=by simpa using h4
   refine aA.int ?_
   rw[he,BI (.inr hb') hi hj,if_neg (by omega),if_pos (by omega)]
  ·have hb':i<b.length:=by simpa using h4
   conv=>whnf
   refine .mk (by simp only[Rw.rng] at *; first|omega|(simp_all; done)|(simp_all; omega)) ?_
   conv=>whnf
   refine ah.pure (S.cmp_Compare_int _ _) rfl ?_
   rw[Jl hi' hb'] at he
   conv=>whnf
   simp only[Int.toNat_natCast]
   refine⟨fun h5=>?_,fun h5=>?_⟩
   ·conv=>whnf
    refine aA.int ?_
    rw[he]
    simp only[bne_iff_ne,ne_eq] at h5 ⊢
    generalize a.getD i 0=x at h5 ⊢
    generalize b.getD i 0=y at h5 ⊢
    unfold O4 at h5 ⊢
    by_cases h6:x<y
    ·simp[h6]
    ·by_cases h7:y<x
     ·simp[h6,h7]
     ·simp[h6,h7] at h5
   ·conv=>whnf
    refine .mk (by simp only[okI] at *; first|omega|(simp_all; done)|(simp_all; omega)) ?_
    conv=>whnf
    have h6: ¬ a.getD i 0<b.getD i 0/\ ¬ b.getD i 0<a.getD i 0:=by
     simp only[bne_eq_false_iff_eq] at h5
     generalize a.getD i 0=x at h5 ⊢
     generalize b.getD i 0=y at h5 ⊢
     unfold O4 at h5
     by_cases h6:x<y
     ·simp[h6] at h5
     ·by_cases h7:y<x
      ·simp[h6,h7] at h5
      ·exact⟨h6,h7⟩
    refine⟨i+1,⟨by omega,by omega,by rw[he,if_neg h6.1,if_neg h6.2]⟩,by omega,⟨⟨_,rfl,rfl⟩,trivial⟩,?_,rfl⟩
    repeat' (first|exact trivial|exact⟨_,rfl,rfl⟩|constructor)
 ·have hi':a.length<=i:=by simpa using h3
  conv=>whnf
  refine⟨fun h4=>?_,fun h4=>?_⟩
  ·conv=>whnf
   refine aA.int ?_
   rw[he,BI (.inl hi') hi hj,if_pos (by simpa using h4)]
  ·conv=>whnf
   refine aA.int ?_
   have:b.length<=a.length:=by simpa using h4
   rw[he,BI (.inl hi') hi hj,if_neg (by omega),if_neg (by omega)]
theorem S.tJ(x y:Int)(f:Bool):au Tryz.prog 70 [.row 0 f (.ints [x,y])] (.int (if x≠0 then x else y)):=by
 refine au.of Bd.tJ (by simp) rfl rfl ?_
 conv=>whnf
 refine aU.same [3,6,7] (fun i:Nat=>[(8,.int i)]) (fun i=>i<=2/\(0<i->x=0)/\(1<i->y=0)) (fun i=>2-i) 0 rfl (by decide) rfl (fun _=>rfl) ⟨by omega,by omega,by omega⟩ ⟨⟨_,rfl,rfl⟩,trivial⟩ ?_
 conv=>whnf
 refine⟨rfl,?_⟩
 rintro i ⟨hi,h0,h1⟩
 conv=>whnf
 refine⟨fun h3=>?_,fun h3=>?_⟩
 ·have hi':i<2:=by simp at h3; omega
  conv=>whnf
  refine .mk (by simp only[Rw.rng,List.length_cons,List.length_nil]; omega) ?_
  conv=>whnf
  refine⟨fun h4=>?_,fun h4=>?_⟩
  ·conv=>whnf
   refine aA.int ?_
   simp only[Int.toNat_natCast,bne_iff_ne,ne_eq] at h4 ⊢
   by_cases e:i=0
   ·subst e; simp at h4 ⊢; simp[h4]
   ·have:i=1:=by omega
    subst this; simp at h4 ⊢; simp[h0]
  ·conv=>whnf
   refine .mk (by simp only[okI] at *; first|omega|(simp_all; done)|(simp_all; omega)) ?_
   conv=>whnf
   refine⟨i+1,⟨by omega,fun _=>?_,fun hlt=>?_⟩,by omega,⟨⟨_,rfl,rfl⟩,trivial⟩,?_,rfl⟩
   ·by_cases e:i=0
    ·subst e; simpa using h4
    ·exact h0 (by omega)
   ·have:i=1:=by omega
    subst this; simpa using h4
   ·repeat' (first|exact trivial|exact⟨_,rfl,rfl⟩|constructor)
 ·have:i=2:=by simp at h3; omega
  subst this
  conv=>whnf
  refine aA.int ?_
  simp[h0,h1]
theorem S.jX(a b:Elem)(ha:a.counts.length<2^40)(hb:b.counts.length<2^40):au Tryz.prog 51 [.dat (.elem a),.dat (.elem b)] (.int (oK a b)):=by
 refine au.of Bd.jX (by simp) rfl rfl ?_
 conv=>whnf
 refine ah.pure (S.cmp_Compare_int a.value b.value) rfl ?_
 conv=>whnf
 refine ah.pure (S.Gw a.counts b.counts ha hb) rfl ?_
 conv=>whnf
 refine ah.pure (S.tJ _ _ true) rfl ?_
 conv=>whnf
 refine aA.int ?_
 unfold oK O4
 by_cases h6:a.value<b.value
 ·simp[h6]
 ·by_cases h7:b.value<a.value
  ·simp[h6,h7]
  ·simp[h6,h7]
def wS(l:List Elem):Prop:= ∀ e∈l,e.counts.length<2^40
theorem wS.get{l:List Elem}(h:wS l)(i:Nat):(l.getD i default).counts.length<2^40:=by
 rw[List.getD_eq_getElem?_getD]
 cases e:l[i]? with
 |none=>show([]:List Int).length<2^40; decide
 |some x=>exact h x (List.mem_of_getElem? e)
theorem Bq{α:Type}{l:List α}{p:α->Bool}{d:α}{i:Nat}(hi:i<l.length)(h:(l.take i).any p=false):(l.take (i+1)).any p=p (l.getD i d):=by
 rw[List.take_add_one,List.any_append,h,Bool.false_or]
 simp[hi]
theorem wV{α:Type}{l:List α}{p:α->Bool}{d:α}{i:Nat}(hi:i<l.length)(h:p (l.getD i d)=true):l.any p=true:=by
 rw[List.any_eq_true]
 exact⟨l[i],List.getElem_mem hi,by simpa [hi] using h⟩
theorem S.vU(a b:List Int)(ha:a.length<2^40)(hb:b.length<2^40):au Tryz.prog 39 [.row 0 false (.ints a),.row 0 false (.ints b)] (.int (cmpL a b)):=by
 refine au.of Bd.vU (by simp) rfl rfl ?_
 conv=>whnf
 refine aU.same [0,1] (fun i:Nat=>[(5,.int i)]) (fun i=>i<=a.length/\i<=b.length/\cmpL a b=cmpL (a.drop i) (b.drop i)) (fun i=>a.length-i) 0 rfl (by decide) rfl (fun _=>rfl) ⟨by omega,by omega,rfl⟩ ⟨⟨_,rfl,rfl⟩,trivial⟩ ?_
 conv=>whnf
 refine⟨rfl,?_⟩
 rintro i ⟨hi,hj,he⟩
 conv=>whnf
 repeat(refine VC.mk (by first|exact id|exact fun h=>⟨h,h⟩) ?_; conv=>whnf)
 refine⟨fun h3=>?_,fun h3=>?_⟩
 ·have hi':i<a.length/\i<b.length:=by
   by_cases h:i<a.length
   ·simp[h] at h3; exact⟨h,by omega⟩
   ·simp[h] at h3
  rw[Jl hi'.1 hi'.2] at he
  obtain⟨hi1,hi2⟩:=hi'
  conv=>whnf
  repeat(refine VC.mk (by simp only[Rw.rng] at *; first|omega|(simp_all; done)|(simp_all; omega)) ?_; conv=>whnf)
  refine⟨fun h5=>?_,fun h5=>?_⟩
  ·conv=>whnf
   refine aA.int ?_
   simp only[Int.toNat_natCast,decide_eq_true_eq] at h5
   rw[he,if_pos h5]
  ·conv=>whnf
   repeat(refine VC.mk (by simp only[Rw.rng] at *; first|omega|(simp_all; done)|(simp_all; omega)) ?_; conv=>whnf)
   simp only[Int.toNat_natCast,decide_eq_false_iff_not] at h5
   refine⟨fun h6=>?_,fun h6=>?_⟩
   ·conv=>whnf
    refine aA.int ?_
    simp only[Int.toNat_natCast,decide_eq_true_eq] at h6
    rw[he,if_neg h5,if_pos h6]
   ·conv=>whnf
    refine .mk (by simp only[okI] at *; first|omega|(simp_all; done)|(simp_all; omega)) ?_
    conv=>whnf
    simp only[Int.toNat_natCast,decide_eq_false_iff_not] at h6
    refine⟨i+1,⟨by omega,by omega,by rw[he,if_neg h5,if_neg h6]⟩,by omega,⟨⟨_,rfl,rfl⟩,trivial⟩,?_,rfl⟩
    repeat' (first|exact trivial|exact⟨_,rfl,rfl⟩|constructor)
 ·have hi':a.length<=i\/b.length<=i:=by
   by_cases h:i<a.length
   ·simp[h] at h3; exact .inr (by omega)
   ·exact .inl (by omega)
  have hx:=BI hi' hi hj
  rw[<- he] at hx
  conv=>whnf
  refine⟨fun h4=>?_,fun h4=>?_⟩
  ·conv=>whnf
   refine aA.int ?_
   rw[hx,if_pos (by simpa using h4)]
  ·conv=>whnf
   have h5: ¬ a.length<b.length:=by simpa using h4
   refine⟨fun h6=>?_,fun h6=>?_⟩
   ·conv=>whnf
    refine aA.int ?_
    rw[hx,if_neg h5,if_pos (by simpa using h6)]
   ·conv=>whnf
    refine aA.int ?_
    rw[hx,if_neg h5,if_neg (by simpa using h6)]
theorem S.qI(a b:Elem)(ha:a.counts.length<2^40)(hb:b.counts.length<2^40):au Tryz.prog 17 [.dat (.elem a),.dat (.elem b)] (.int (oK a b)):=by
 refine au.of Bd.qI (by simp) rfl rfl ?_
 conv=>whnf
 refine⟨fun h1=>?_,fun h1=>?_⟩
 ·conv=>whnf
  exact aA.int (by simp only[decide_eq_true_eq] at h1; simp[oK,h1])
 ·conv=>whnf
  simp only[decide_eq_false_iff_not] at h1
  refine⟨fun h2=>?_,fun h2=>?_⟩
  ·conv=>whnf
   exact aA.int (by simp only[decide_eq_true_eq] at h2; simp[oK,h1,h2])
  ·simp only[decide_eq_false_iff_not] at h2
   conv=>whnf
   refine ah.pure (S.vU a.counts b.counts ha hb) rfl ?_
   conv=>whnf
   exact aA.int (by simp[oK,h1,h2])
theorem cmpL_eq: ∀ {a b:List Int},cmpL a b=0↔a=b:=by
 intro a
 induction a with
 |nil=>intro b; cases b<;>simp[cmpL]
 |cons x a ih =>
  intro b
  cases b with
  |nil=>simp[cmpL]
  |cons y b =>
   simp only[cmpL]
   split
   ·simp; omega
   ·split
    ·simp; omega
    ·rw[ih]; simp; intro _; omega
theorem uM{a b:Elem}:oK a b=0↔a=b:=by
 obtain⟨v,c⟩:=a; obtain⟨w,d⟩:=b
 simp only[oK]
 split
 ·simp; omega
 ·split
  ·simp; omega
  ·rw[cmpL_eq]; simp; intro _; omega
def A8(n:Int):Bool:=decide (0<=n)&&decide (n<=1048576)
theorem S.lK(l:List Int)(f:Bool)(hl:l.length<2^40):au Tryz.prog 67 [.row 0 f (.ints l)] (.bool (l.all A8)):=by
 refine au.of Bd.lK (by simp) rfl rfl ?_
 conv=>whnf
 refine aU.same [5,6] (fun i:Nat=>[(7,.int i)]) (fun i=>i<=l.length/\(l.take i).all A8=true) (fun i=>l.length-i) 0 rfl (by decide) rfl (fun _=>rfl) ⟨by omega,by simp⟩ ⟨⟨_,rfl,rfl⟩,trivial⟩ ?_
 conv=>whnf
 refine⟨rfl,?_⟩
 rintro i ⟨hi,hall⟩
 conv=>whnf
 refine⟨fun h3=>?_,fun h3=>?_⟩
 ·have hi':i<l.length:=by simpa using h3
  conv=>whnf
  repeat(refine VC.mk (by first|exact id|(intro h; rw[h]; rfl)|(simp only[Rw.rng] at *; first|omega|(simp_all; done)|(simp_all; omega))) ?_; conv=>whnf)
  refine⟨fun h4=>?_,fun h4=>?_⟩
  ·conv=>whnf
   refine aA.bool ?_
   simp only[Int.toNat_natCast] at h4
   have h5:A8 (l.getD i 0)=false:=by
    have key: ∀ x:Int,(decide (x<0)||decide (1048576<x))=true->A8 x=false:=by
     intro x h4
     unfold A8
     by_cases h0:x<0
     ·simp; omega
     ·simp[h0] at h4; simp; omega
    exact key _ h4
   rw[Bool.eq_false_iff]
   intro h
   rw[List.all_eq_true] at h
   have:=h l[i] (List.getElem_mem hi')
   rw[show l.getD i 0=l[i] by simp[hi']] at h5
   rw[this] at h5; cases h5
  ·conv=>whnf
   refine .mk (by simp only[okI] at *; first|omega|(simp_all; done)|(simp_all; omega)) ?_
   conv=>whnf
   simp only[Int.toNat_natCast] at h4
   refine⟨i+1,⟨by omega,?_⟩,by omega,⟨⟨_,rfl,rfl⟩,trivial⟩,?_,rfl⟩
   ·have h5:A8 (l.getD i 0)=true:=by
     have key: ∀ x:Int,(decide (x<0)||decide (1048576<x))=false->A8 x=true:=by
      intro x h4
      unfold A8
      by_cases h0:x<0
      ·simp[h0] at h4
      ·simp[h0] at h4; simp; omega
     exact key _ h4
    rw[List.take_add_one,List.all_append,hall]
    simpa [hi'] using h5
   ·repeat' (first|exact trivial|exact⟨_,rfl,rfl⟩|constructor)
 ·conv=>whnf
  refine aA.bool ?_
  have hi':l.length<=i:=by simpa using h3
  rw[List.take_of_length_le hi'] at hall; exact hall
def jd(e:Elem):Int:=if 6<e.counts.length then 0 else if e.counts.all A8=true then e.counts.sum else 0
theorem vM: ∀ {l:List Int},l.all A8=true->0<=l.sum/\l.sum<=l.length*1048576:=by
 intro l
 induction l with
 |nil=>intro _; simp
 |cons x l ih =>
  intro h
  simp only[List.all_cons,Bool.and_eq_true,A8,decide_eq_true_eq] at h
  have:=ih h.2
  simp only[List.sum_cons,List.length_cons]
  omega
theorem MO{l:List Int}(h:l.all A8=true)(i:Nat):(l.take i).all A8=true:=by
 rw[List.all_eq_true] at h ⊢
 exact fun x hx=>h x (List.mem_of_mem_take hx)
theorem MP{l:List Int}{i:Nat}(hi:i<l.length):(l.take (i+1)).sum=(l.take i).sum+l.getD i 0:=by
 rw[List.take_add_one,List.sum_append]; simp[hi]
theorem S.iD(e:Elem)(hl:e.counts.length<2^40):au Tryz.prog 54 [.dat (.elem e)] (.int (jd e)):=by
 refine au.of Bd.iD (by simp) rfl rfl ?_
 conv=>whnf
 repeat(refine VC.mk id ?_; conv=>whnf)
 refine ah.nY (fun _=>S.lK e.counts false hl) rfl ?_
 conv=>whnf
 repeat(refine VC.mk (by first|exact id|(intro h; rw[h]; rfl)) ?_; conv=>whnf)
 refine⟨fun h1=>?_,fun h1=>?_⟩
 ·conv=>whnf
  refine aA.int ?_
  unfold jd
  by_cases h:6<e.counts.length
  ·rw[if_pos h]
  ·rw[if_neg h,if_neg]
   have h': ¬ (6:Int)<e.counts.length:=by omega
   simp[h'] at h1
   intro hh
   rw[List.all_eq_true] at hh
   obtain⟨x,hx,hx'⟩:=h1
   exact absurd (hh x hx) (by simp[hx'])
 ·have h2: ¬ 6<e.counts.length/\e.counts.all A8=true:=by
   by_cases h:(6:Int)<e.counts.length
   ·simp[h] at h1
   ·simp[h] at h1
    exact⟨by omega,by rw[List.all_eq_true]; exact h1⟩
  conv=>whnf
  refine aU.same [17,18] (fun i:Nat=>[(19,.int i),(3,.int (e.counts.take i).sum)]) (fun i=>i<=e.counts.length) (fun i=>e.counts.length-i) 0 rfl (by decide) rfl (fun _=>rfl) (by omega) ⟨⟨_,rfl,rfl⟩,⟨_,rfl,rfl⟩,trivial⟩ ?_
  conv=>whnf
  refine⟨rfl,?_⟩
  rintro i hi
  have hb:=vM (MO h2.2 i)
  have hb':((e.counts.take i).length:Int)<=6:=by simp; omega
  conv=>whnf
  refine⟨fun h3=>?_,fun h3=>?_⟩
  ·have hi':i<e.counts.length:=by simpa using h3
   have hs:=MP hi'
   have hc:=vM (MO h2.2 (i+1))
   have hc':((e.counts.take (i+1)).length:Int)<=6:=by simp; omega
   conv=>whnf
   repeat(refine VC.mk (by first|(simp only[okI,Int.toNat_natCast] at *; rw[<- hs]; omega)|(simp only[okI,Rw.rng] at *; first|omega|(simp_all; done)|(simp_all; omega))) ?_; conv=>whnf)
   refine⟨i+1,by omega,by omega,⟨⟨_,rfl,rfl⟩,⟨_,rfl,?_⟩,trivial⟩,?_,rfl⟩
   ·rw[hs]; simp[V.aH,pz]
   ·repeat' (first|exact trivial|exact⟨_,rfl,rfl⟩|constructor)
  ·conv=>whnf
   refine aA.int ?_
   have hi':e.counts.length<=i:=by simpa using h3
   rw[List.take_of_length_le hi']
   simp[jd,h2.1,h2.2]
theorem S.lM(a b:Elem)(ha:a.counts.length<2^40)(hb:b.counts.length<2^40):au Tryz.prog 53 [.dat (.elem a),.dat (.elem b)] (.bool (decide (a=b))):=by
 refine au.of Bd.lM (by simp) rfl rfl ?_
 conv=>whnf
 refine ah.pure (S.jX a b ha hb) rfl ?_
 conv=>whnf
 refine aA.bool ?_
 rw[Bool.eq_iff_iff]; simp only[decide_eq_true_eq,beq_iff_eq]
 exact uM.symm
theorem ah.lend{P:Program}{dr:Bool}{f:FuncId}{args args':List V}{res:V}{h:Hz}{n:Nat}{K:V->Hz->Prop}{KW:Nat->V->Hz->Prop}(S:au P f args' res)(hs:T.cu (fun _=>True) h.aj (V.aS args') (V.aS args))(hh:res.aH.hard=true)(hr:res.free=true)(hK:K res h):ah P dr none f args h n K KW :=
 ⟨.inl (uy.lend S hs hh (fun _ e=>by cases e) ⟨res,h,rfl,rfl,fun _=>⟨rfl,V.lX res hr⟩,hK⟩)⟩
theorem tH(l:List Elem):T.dh (l.map fU)=true:=by
 rw[fJ]; intro t ht; obtain⟨x,_,rfl⟩:=List.mem_map.1 ht; rfl
theorem bG.of_eq{a b:List T}(h:a=b):bG a b:=by subst h; exact .refl _
theorem ah.LJ{P:Program}{dr b:Bool}{f:FuncId}{args args':List V}{res:V}{h:Hz}{n:Nat}{K:V->Hz->Prop}{KW:Nat->V->Hz->Prop}(S:b=true->au P f args' res)(hs:b=true->T.cu (fun _=>True) h.aj (V.aS args') (V.aS args))(hh:res.aH.hard=true)(hr:res.free=true)(hK:K res h):ah P dr (some b) f args h n K KW :=
 ⟨.inl (.inl ⟨res,fun e=>uy.lend (S e) (hs e) hh (fun _ e=>by cases e) ⟨rfl,rfl⟩,hr,hK⟩)⟩
abbrev jE(l:List Elem):OV:=.row 38 3 (.elems l) []
theorem U6{h:Hz}{j:Nat}{l:List Elem}{Z:Nat->Prop}(hz:Z j)(q:h.get j=some (jE l)):T.sub Z h.aj (V.row 3 false (.elems l)).aH (V.own j).aH:=by
 show T.sub Z h.aj (.sl 3 false (l.map fU)) (.own j)
 simp only[T.sub]
 refine⟨trivial,hz,tH l,by decide,38,?_⟩
 have:=aJ q; simpa [OV.aG,Rw.aS,V.aS] using this
theorem aA.acZ{h:Hz}{j:Nat}{l:List Elem}(q:h.get j=some (jE l)):aA (.row 3 false (.elems l)) (.own j) h:=⟨U6 trivial q⟩
abbrev h1(l:List Elem):Hz:=[(0,some (jE l))]
def qJ(l:List Elem):Nat->List Elem
 |0=>[]
 |n+1=>if n=0\/l.getD n default≠l.getD (n-1) default then qJ l n++[l.getD n default] else qJ l n
theorem EU(l:List Elem): ∀ n,(qJ l n).length<=n:=by
 intro n
 induction n with
 |zero=>exact Nat.le_refl _
 |succ n ih =>
  simp only[qJ]; split
  ·simp; omega
  ·omega
theorem X8{l:List Elem}{x:Elem}: ∀ {n},x∈qJ l n->n<=l.length->x∈l:=by
 intro n
 induction n with
 |zero=>intro h; cases h
 |succ n ih =>
  intro h hn
  simp only[qJ] at h
  split at h
  ·rcases List.mem_append.1 h with h|h
   ·exact ih h (by omega)
   ·rw[List.mem_singleton] at h; subst h
    simp[show n<l.length by omega]
  ·exact ih h (by omega)
abbrev zeroV:V:=.agg [.int 0,.row 0 true .nil]
def mid(l:List Elem)(j:Nat):List Elem:=qJ l j++l.drop (qJ l j).length
theorem X9{l:List Elem}{j:Nat}(h:j<=l.length):(mid l j).length=l.length:=by
 have:=EU l j
 simp[mid]; omega
theorem QE{l:List Elem}{j i:Nat}(h:(qJ l j).length<=i):(mid l j).getD i default=l.getD i default:=by
 unfold mid
 rw[List.getD_eq_getElem?_getD,List.getElem?_append_right h,List.getElem?_drop,List.getD_eq_getElem?_getD]
 congr 2; omega
theorem Ya{l:List Elem}{j:Nat}(hj:j<l.length)(h:j=0\/l.getD j default≠l.getD (j-1) default):(mid l j).set (qJ l j).length (l.getD j default)=mid l (j+1):=by
 have hl:=EU l j
 have e:qJ l (j+1)=qJ l j++[l.getD j default]:=by simp only[qJ]; rw[if_pos h]
 unfold mid
 rw[e,List.set_append_right _ _ (Nat.le_refl _),Nat.sub_self,cO default (show(qJ l j).length<l.length by omega)]
 simp
theorem MQ{l:List Elem}{j:Nat}(h0:j≠0)(h:l.getD j default=l.getD (j-1) default):qJ l (j+1)=qJ l j:=by
 simp only[qJ]; rw[if_neg]; intro q; rcases q with q|q
 ·exact h0 q
 ·exact q h
theorem Gx{l:List Elem}{k:Nat}(hk:k<=l.length)(h: ∀ i,0<i->i<k->l.getD i default≠l.getD (i-1) default):qJ l k=l.take k:=by
 induction k with
 |zero=>rfl
 |succ k ih =>
  simp only[qJ]
  rw[if_pos,ih (by omega) fun i h1 h2=>h i h1 (by omega),List.take_add_one]
  ·simp[show k<l.length by omega]
  ·by_cases h0:k=0
   ·exact .inl h0
   ·exact .inr (h k (by omega) (by omega))
theorem MR(l:List Elem)(m nx:Nat):(OV.row 38 3 (.elems l) (List.replicate m zeroV)).good nx=true:=by
 have h1:Gy 3 (List.replicate m zeroV)=true:=by
  induction m with
  |zero=>rfl
  |succ m ih=>simp only[List.replicate_succ,Gy,ih,Bool.and_true]; rfl
 have h2:T.Jh nx (V.aS (List.replicate m zeroV))=true:=by
  clear h1
  induction m with
  |zero=>rfl
  |succ m ih=>simp only[List.replicate_succ,V.aS,T.Jh,ih,Bool.and_true]; rfl
 simp only[OV.good,h1,h2]; rfl
theorem JY(l:List Elem)(m:Nat):(OV.row 38 3 (.elems l) (List.replicate m zeroV)).Io=true:=by
 simp only[OV.Io]
 induction m with
 |zero=>rfl
 |succ m ih=>simp only[List.replicate_succ,V.dh,ih,Bool.and_true]; rfl
def qQ(l:List Elem):List Elem:=qJ l l.length
theorem S.MS(l:List Elem)(n:Nat)(hl:l.length<2^30)(hs:wS l) :
  aF Tryz.prog 52 (V.aS [.own 0,.fn 53 []]) (h1 l).aj n
   (fun t hp=>(qQ l=l/\t= .own 0/\hp=(h1 l).aj)\/(∃ m,t= .nC 0 0 (qQ l).length/\hp=Hz.aj [(0,some (.row 38 3 (.elems (qQ l)) (List.replicate m zeroV)))])):=by
 refine lV.of (nx:=1) Bd.dG (by simp) ⟨_,_,.inr ⟨0,rfl,rfl⟩⟩ rfl rfl ?_
 conv=>whnf
 refine⟨fun h1=>?_,fun h1=>?_⟩
 ·conv=>whnf
  have hc:qQ l=l:=by
   have h2:l.length<2:=by simp at h1; omega
   rw[qQ,Gx (Nat.le_refl _) (fun i h3 h4=>by omega),List.take_length]
  exact fV.one (c:=0) (j:=0) (o:=jE l) (t:=.own 0) rfl rfl rfl (fun _=>rfl) (.inl rfl) rfl (.eq rfl) (.inl ⟨hc,rfl,rfl⟩)
 ·have h2:2<=l.length:=by simp at h1; omega
  conv=>whnf
  refine aU.same [0,1] (fun i:Nat=>[(5,.int i)]) (fun i=>1<=i/\i<=l.length/\ ∀ k,0<k->k<i->l.getD k default≠l.getD (k-1) default) (fun i=>l.length-i) 1 rfl (by decide) rfl (fun _=>rfl) ⟨by omega,by omega,fun k h3 h4=>by omega⟩ ⟨⟨_,rfl,rfl⟩,trivial⟩ ?_
  conv=>whnf
  refine⟨rfl,?_⟩
  rintro k ⟨hk0,hk,hne⟩
  have e1:((k:Int)-1).toNat=k-1:=by omega
  conv=>whnf
  refine⟨fun h3=>?_,fun h3=>?_⟩
  ·have hk':k<l.length:=by simpa using h3
   conv=>whnf
   repeat(refine VC.mk (by simp only[okI,Rw.rng]; omega) ?_; conv=>whnf)
   refine ah.pure (S.lM _ _ (hs.get _) (hs.get _)) rfl ?_
   conv=>whnf
   refine⟨fun h4=>?_,fun h4=>?_⟩
   ·have heq:l.getD k default=l.getD (k-1) default:=by
     rw[e1] at h4; simpa using h4
    have hdk:qJ l k=l.take k:=Gx hk hne
    have aam:qJ l (k+1)=l.take k:=by rw[MQ (by omega) heq,hdk]
    conv=>whnf
    refine .mk (by simp only[Rw.qN]; omega) ?_
    conv=>whnf
    refine aU.objs 1 [0,1,6] (fun j:Nat=>[(7,.int j),(5,.int (qJ l (k+j)).length)]) (fun j=>[(0,jE (mid l (k+j)))]) (fun j=>1<=j/\k+j<=l.length/\(qJ l (k+j)).length+1<=k+j) (fun j=>l.length-j) 1 [0] rfl (by decide) (fun _=>rfl) ⟨by omega,by omega,?_⟩ ?_ ?_ ?_
    ·rw[aam]; simp; omega
    ·refine⟨⟨_,rfl,.eq rfl⟩,⟨_,rfl,.eq ?_⟩,trivial⟩
     rw[aam]
     show T.int (((l.take k).length:Nat):Int)=T.int (k:Int)
     simp[Nat.min_eq_left hk]
    ·refine⟨⟨rfl,(fun _=>rfl),rfl,rfl,rfl,_,rfl,rfl,rfl,bG.of_eq ?_⟩,trivial⟩
     have:mid l (k+1)=l:=by unfold mid; rw[aam]; simp[Nat.min_eq_left hk]
     rw[this]
    conv=>whnf
    refine⟨⟨⟨_,rfl,.eq rfl⟩,⟨_,rfl,.eq rfl⟩,⟨_,rfl,.eq rfl⟩,trivial⟩,rfl,?_⟩
    rintro j ⟨hj0,hj,hdl⟩
    have hml:=X9 hj
    have e2:((j:Int)-1).toNat=j-1:=by omega
    have hsm:wS (mid l (k+j)):=fun x hx=>by
     unfold mid at hx
     rcases List.mem_append.1 hx with hx|hx
     ·exact hs x (X8 hx hj)
     ·exact hs x (List.mem_of_mem_drop hx)
    conv=>whnf
    refine⟨fun h5=>?_,fun h5=>?_⟩
    ·have hj':k+j<l.length:=by
      have h6:j<l.length-k:=by
       have:(j:Int)<(((Rw.elems l).len-k:Nat):Int):=by simpa using h5
       have e3:(Rw.elems l).len=l.length:=rfl
       rw[e3] at this
       omega
      omega
     have g1:=QE (l:=l) (j:=k+j) (i:=k+j) (by omega)
     have g2:=QE (l:=l) (j:=k+j) (i:=k+(j-1)) (by omega)
     conv=>whnf
     repeat(refine VC.mk (by first|(simp only[okI]; omega)|(show _/\_<(((l.length-k:Nat)):Int); omega)|(simp only[Rw.rng,hml,Int.toNat_natCast,e2]; omega)|(show(0:Int)<=_/\_<((mid l (k+j)).length:Int); rw[hml]; simp only[Int.toNat_natCast,e2]; omega)) ?_; conv=>whnf)
     refine ah.pure (S.lM _ _ (hsm.get _) (hsm.get _)) rfl ?_
     simp only[Int.toNat_natCast,e2,g1,g2]
     conv=>whnf
     have e4:k+(j-1)=k+j-1:=by omega
     refine⟨fun h6=>?_,fun h6=>?_⟩
     ·have hne':l.getD (k+j) default≠l.getD (k+j-1) default:=by
       rw[e4] at h6; simpa using h6
      have hst:=Ya hj' (.inr hne')
      have hd1:qJ l (k+j+1)=qJ l (k+j)++[l.getD (k+j) default]:=by simp only[qJ]; rw[if_pos (.inr hne')]
      conv=>whnf
      repeat(refine VC.mk (by first|(simp only[okI]; omega)|(show _/\_<(((l.length-k:Nat)):Int); omega)|(simp only[Rw.rng,hml,Int.toNat_natCast]; omega)|(show(0:Int)<=_/\_<((mid l (k+j)).length:Int); rw[hml]; simp only[Int.toNat_natCast]; omega)) ?_; conv=>whnf)
      refine⟨j+1,[0],⟨by omega,by omega,?_⟩,by omega,⟨⟨_,rfl,.eq rfl⟩,⟨_,rfl,.eq ?_⟩,trivial⟩,⟨⟨_,rfl,.eq rfl⟩,⟨_,rfl,.eq rfl⟩,⟨_,rfl,.eq rfl⟩,trivial⟩,⟨rfl,(fun _=>rfl),rfl,rfl,rfl,_,rfl,rfl,rfl,bG.of_eq ?_⟩,trivial⟩
      ·show(qJ l (k+j+1)).length+1<=k+(j+1)
       rw[hd1]; simp; omega
      ·show T.int (((qJ l (k+j+1)).length:Nat):Int)=T.int (((qJ l (k+j)).length:Int)+1)
       rw[hd1]; simp
      ·show(jE (mid l (k+j+1))).aG.l=(OV.row 38 3 (.elems ((mid l (k+j)).set (((qJ l (k+j)).length:Int)).toNat ((mid l (k+j)).getD ((k:Int).toNat+(j:Int).toNat) default))) []).aG.l
       simp only[Int.toNat_natCast,g1,hst]
     ·have heq':l.getD (k+j) default=l.getD (k+j-1) default:=by
       rw[e4] at h6; simpa using h6
      have hd1:qJ l (k+j+1)=qJ l (k+j):=MQ (by omega) heq'
      conv=>whnf
      refine .mk (by simp only[okI] at *; first|omega|(simp_all; done)|(simp_all; omega)) ?_
      conv=>whnf
      refine⟨j+1,[0],⟨by omega,by omega,?_⟩,by omega,⟨⟨_,rfl,.eq rfl⟩,⟨_,rfl,.eq ?_⟩,trivial⟩,⟨⟨_,rfl,.eq rfl⟩,⟨_,rfl,.eq rfl⟩,⟨_,rfl,.eq rfl⟩,trivial⟩,⟨rfl,(fun _=>rfl),rfl,rfl,rfl,_,rfl,rfl,rfl,bG.of_eq ?_⟩,trivial⟩
      ·show(qJ l (k+j+1)).length+1<=k+(j+1)
       rw[hd1]; omega
      ·show T.int (((qJ l (k+j+1)).length:Nat):Int)=T.int ((qJ l (k+j)).length:Int)
       rw[hd1]
      ·show(jE (mid l (k+j+1))).aG.l=(jE (mid l (k+j))).aG.l
       unfold mid; rw[hd1]
    ·have hj':k+j=l.length:=by
      have h6: ¬ (j:Int)<(((Rw.elems l).len-k:Nat):Int):=by simpa using h5
      have e3:(Rw.elems l).len=l.length:=rfl
      rw[e3] at h6
      omega
     have adM:(qJ l (k+j)).length<=l.length:=by have:=EU l (k+j); omega
     conv=>whnf
     repeat(refine VC.mk (by first|(simp only[Rw.qN,hml]; omega)|(refine⟨?_,rfl⟩; show((qJ l (k+j)).length:Int).toNat<=(mid l (k+j)).length; rw[hml,Int.toNat_natCast]; omega)|(show(0:Int)<=((qJ l (k+j)).length:Int)/\((qJ l (k+j)).length:Int)<=(((mid l (k+j)).take ((qJ l (k+j)).length:Int).toNat).length:Int); rw[List.length_take,hml,Int.toNat_natCast]; omega)|(show _<=(mid l (k+j)).length/\(mid l (k+j)).length=(mid l (k+j)).length; rw[hml]; simp only[Int.toNat_natCast]; omega)|(show(0:Int)<=_/\_<=(((mid l (k+j)).take _).length:Int); rw[List.length_take,hml]; simp only[Int.toNat_natCast]; omega)) ?_; conv=>whnf)
     have htk:(mid l (k+j)).take ((qJ l (k+j)).length:Int).toNat=qQ l:=by
      rw[Int.toNat_natCast]; unfold mid; rw[List.take_left,hj']; rfl
     have hcl:((qJ l (k+j)).length:Int).toNat=(qQ l).length:=by rw[Int.toNat_natCast,hj']; rfl
     refine fV.one (c:=0) (j:=0) (o:=.row 38 3 (.elems (qQ l)) (List.replicate ((mid l (k+j)).length-((qJ l (k+j)).length:Int).toNat) zeroV)) (t:=.nC 0 0 (qQ l).length) ?_ (MR _ _ _) (JY _ _) (fun _=>rfl) (.inl rfl) rfl (.eq ?_) (.inr ⟨_,rfl,rfl⟩)
     ·rw[<- htk]; rfl
     ·rw[<- hcl]; rfl
   ·conv=>whnf
    refine .mk (by simp only[okI] at *; first|omega|(simp_all; done)|(simp_all; omega)) ?_
    conv=>whnf
    refine⟨k+1,⟨by omega,by omega,fun i h5 h6=>?_⟩,by omega,⟨⟨_,rfl,rfl⟩,trivial⟩,?_,rfl⟩
    ·by_cases e:i=k
     ·subst e; rw[e1] at h4; simpa using h4
     ·exact hne i h5 (by omega)
    ·repeat' (first|exact trivial|exact⟨_,rfl,rfl⟩|constructor)
  ·conv=>whnf
   have hk':l.length<=k:=by simpa using h3
   have hc:qQ l=l:=by
    rw[qQ,Gx (Nat.le_refl _) (fun i h3 h4=>hne i h3 (by omega)),List.take_length]
   exact fV.one (c:=0) (j:=0) (o:=jE l) (t:=.own 0) rfl rfl rfl (fun _=>rfl) (.inl rfl) rfl (.eq rfl) (.inl ⟨hc,rfl,rfl⟩)
theorem S.Tf:au Tryz.prog 101 [.raw (.lit (.int .u64 0))] (.int 0):=by
 refine au.of Bd.rF (by simp) rfl rfl ?_
 conv=>whnf
 refine Fork.mk (fun q=>absurd (q.symm.trans ((rfl:decide ((4294967296:Int)<=0)=false))).symm Bool.false_ne_true) (fun _=>?_)
 conv=>whnf
 refine Fork.mk (fun q=>absurd (q.symm.trans ((rfl:decide ((65536:Int)<=0)=false))).symm Bool.false_ne_true) (fun _=>?_)
 conv=>whnf
 refine Fork.mk (fun q=>absurd (q.symm.trans ((rfl:decide ((256:Int)<=0)=false))).symm Bool.false_ne_true) (fun _=>?_)
 conv=>whnf
 refine .mk (by omega) ?_
 conv=>whnf
 repeat(refine VC.mk (by constructor<;>decide) ?_; conv=>whnf)
 exact aA.int (by decide)
theorem S.bitsLen:au Tryz.prog 69 [.raw (.lit (.int .u64 0))] (.int 0):=by
 refine au.of Bd.vC (by simp) rfl rfl ?_
 conv=>whnf
 refine Fork.mk (fun q=>absurd (q.symm.trans ((rfl:false=false))).symm Bool.false_ne_true) (fun _=>?_)
 conv=>whnf
 refine ah.pure (S.Tf) rfl ?_
 conv=>whnf
 exact aA.int rfl
theorem S.O5(n:Nat):aF Tryz.prog 92 (V.aS [.own 0,.int 0,.int 0,.fn 51 []]) (h1 []).aj n (fun t hp=>t= .dM []/\hp=(h1 []).aj):=by
 refine lV.of (nx:=1) (h0:=h1 []) Bd.dU (by simp) ⟨_,_,rfl,rfl⟩ rfl rfl ?_
 conv=>whnf
 refine .mk (by simp only[okI] at *; first|omega|(simp_all; done)|(simp_all; omega)) ?_
 conv=>whnf
 refine aU.times 1 rfl ?_
 conv=>whnf
 refine Fork.mk (fun q=>absurd (q.symm.trans ((rfl:decide ((0:Int)+1<0)=false))).symm Bool.false_ne_true) (fun _=>?_)
 conv=>whnf
 exact fV.one (c:=0) (j:=0) (o:=jE []) (t:=.dM []) rfl rfl rfl (fun _=>rfl) (.inl rfl) trivial (.eq rfl) ⟨rfl,rfl⟩
theorem S.ac3(n:Nat):aF Tryz.prog 68 (V.aS [.own 0,.int 0,.int 0,.int 0,.fn 51 []]) (h1 []).aj n (fun t hp=>t= .dM []/\hp=(h1 []).aj):=by
 refine lV.of (nx:=1) (h0:=h1 []) Bd.fP (by simp) ⟨_,_,rfl,rfl⟩ rfl rfl ?_
 conv=>whnf
 refine aU.times 1 rfl ?_
 conv=>whnf
 refine .mk (by simp only[okI] at *; first|omega|(simp_all; done)|(simp_all; omega)) ?_
 conv=>whnf
 refine Fork.mk (fun _=>?_) (fun q=>absurd (q.symm.trans ((rfl:decide ((0:Int)-0<=12)=true))) Bool.false_ne_true)
 conv=>whnf
 refine ah.heap (S.O5 _) (fun t hp ⟨e1,e2⟩=>⟨.dM [],h1 [],e1,e2,?_⟩)
 conv=>whnf
 exact fV.one (c:=0) (j:=0) (o:=jE []) (t:=.dM []) rfl rfl rfl (fun _=>rfl) (.inl rfl) trivial (.eq rfl) ⟨rfl,rfl⟩
theorem S.Yb(n:Nat):aF Tryz.prog 50 (V.aS [.own 0,.fn 51 []]) (h1 []).aj n (fun t hp=>t= .dM []/\hp=(h1 []).aj):=by
 refine lV.of (nx:=1) (h0:=h1 []) Bd.bU (by simp) ⟨_,_,rfl,rfl⟩ rfl rfl ?_
 conv=>whnf
 refine .mk (by simp only[List.length_nil]; omega) ?_
 conv=>whnf
 refine ah.pure (S.bitsLen) rfl ?_
 conv=>whnf
 refine ah.heap (S.ac3 _) (fun t hp ⟨e1,e2⟩=>⟨.dM [],h1 [],e1,e2,?_⟩)
 conv=>whnf
 exact fV.one (c:=0) (j:=0) (o:=jE []) (t:=.dM []) rfl rfl rfl (fun _=>rfl) (.inl rfl) trivial (.eq rfl) ⟨rfl,rfl⟩
theorem Ti: ∀ a b:List Int,cmpL b a= -cmpL a b:=by
 intro a
 induction a with
 |nil=>intro b; cases b<;>rfl
 |cons x a ih =>
  intro b
  cases b with
  |nil=>rfl
  |cons y b =>
   simp only[cmpL]
   by_cases h1:x<y
   ·have h2: ¬ y<x:=by omega
    simp[h1,h2]
   ·by_cases h2:y<x
    ·simp[h1,h2]
    ·simp[h1,h2,ih]
theorem pU(a b:Elem):oK b a= -oK a b:=by
 simp only[oK]
 by_cases h1:a.value<b.value
 ·have h2: ¬ b.value<a.value:=by omega
  simp[h1,h2]
 ·by_cases h2:b.value<a.value
  ·simp[h1,h2]
  ·simp[h1,h2,Ti a.counts b.counts]
theorem O6: ∀ {a b c:List Int},cmpL a b<0->cmpL b c<0->cmpL a c<0:=by
 intro a
 induction a with
 |nil =>
  intro b c h1 h2
  cases b with
  |nil=>simp[cmpL] at h1
  |cons y b=>cases c with
   |nil=>simp[cmpL] at h2
   |cons z c=>simp[cmpL]
 |cons x a ih =>
  intro b c h1 h2
  cases b with
  |nil=>simp[cmpL] at h1
  |cons y b=>cases c with
   |nil=>simp[cmpL] at h2
   |cons z c =>
    simp only[cmpL] at h1 h2 ⊢
    by_cases a1:x<y
    ·by_cases a2:y<z
     ·rw[if_pos (by omega)]; omega
     ·by_cases a3:z<y
      ·simp[a2,a3] at h2
      ·rw[if_pos (by omega)]; omega
    ·by_cases a4:y<x
     ·simp[a1,a4] at h1
     ·simp only[a1,a4,if_false] at h1
      have e:x=y:=by omega
      subst e
      by_cases a2:x<z
      ·simp[a2]
      ·by_cases a3:z<x
       ·simp[a2,a3] at h2
       ·simp only[a2,a3,if_false] at h2 ⊢
        exact ih h1 h2
theorem Gz{a b c:Elem}(h1:oK a b<0)(h2:oK b c<0):oK a c<0:=by
 simp only[oK] at h1 h2 ⊢
 by_cases a1:a.value<b.value
 ·by_cases a2:b.value<c.value
  ·rw[if_pos (by omega)]; omega
  ·by_cases a3:c.value<b.value
   ·simp[a2,a3] at h2
   ·rw[if_pos (by omega)]; omega
 ·by_cases a4:b.value<a.value
  ·simp[a1,a4] at h1
  ·simp only[a1,a4,if_false] at h1
   by_cases a2:b.value<c.value
   ·rw[if_pos (by omega)]; omega
   ·by_cases a3:c.value<b.value
    ·simp[a2,a3] at h2
    ·simp only[a2,a3,if_false] at h2
     rw[if_neg (by omega),if_neg (by omega)]
     exact O6 h1 h2
theorem zQ{a b c:Elem}(h1: ¬ oK b a<0)(h2: ¬ oK c b<0): ¬ oK c a<0:=by
 rw[pU a b] at h1
 rw[pU b c] at h2
 rw[pU a c]
 by_cases e1:oK a b=0
 ·rw[uM] at e1; subst e1; exact h2
 ·by_cases e2:oK b c=0
  ·rw[uM] at e2; subst e2; exact h1
  ·have:=Gz (a:=a) (b:=b) (c:=c) (by omega) (by omega)
   omega
def BJ(l:List Elem):Prop:=l.Pairwise fun a b=> ¬ oK b a<0
def O7(e:Elem):List Elem->List Elem
 |[]=>[e]
 |x::r=>if oK x e<0 then x::O7 e r else e::x::r
def oN(l:List Elem):List Elem:=l.foldr O7 []
theorem Jm(e:Elem): ∀ l,(O7 e l).Perm (e::l):=by
 intro l
 induction l with
 |nil=>exact .refl _
 |cons x r ih =>
  simp only[O7]; split
  ·exact((ih.cons x).trans (.swap e x r))
  ·exact .refl _
theorem tK: ∀ l,(oN l).Perm l:=by
 intro l
 induction l with
 |nil=>exact .refl _
 |cons x r ih=>exact(Jm x _).trans (ih.cons x)
theorem VJ(e:Elem): ∀ l,BJ l->BJ (O7 e l):=by
 intro l
 induction l with
 |nil=>intro _; simp[BJ,O7]
 |cons x r ih =>
  intro h
  have h':=h
  simp only[BJ,List.pairwise_cons] at h
  simp only[O7]
  split
  ·rename_i hlt
   simp only[BJ,List.pairwise_cons]
   refine⟨fun y hy=>?_,ih h.2⟩
   rcases List.mem_cons.1 ((Jm e r).mem_iff.1 hy) with rfl|hy
   ·rw[pU]; omega
   ·exact h.1 y hy
  ·rename_i hge
   simp only[BJ,List.pairwise_cons]
   refine⟨fun y hy=>?_,h⟩
   rcases List.mem_cons.1 hy with rfl|hy
   ·exact hge
   ·exact zQ hge (h.1 y hy)
theorem DF: ∀ l,BJ (oN l):=by
 intro l
 induction l with
 |nil=>simp[BJ,oN]
 |cons x r ih=>exact VJ x _ ih
theorem O8: ∀ {a b:List Elem},a.Perm b->BJ a->BJ b->a=b:=by
 intro a
 induction a with
 |nil=>intro b hp _ _; exact hp.nil_eq
 |cons x a ih =>
  intro b hp ha hb
  cases b with
  |nil=>exact absurd hp.symm (by simp)
  |cons y b =>
   have h1:=ha; have h2:=hb
   simp only[BJ,List.pairwise_cons] at h1 h2
   have hxy:x=y:=by
    by_cases e:x=y
    ·exact e
    ·have hx:x∈b:=by
      rcases List.mem_cons.1 (hp.mem_iff.1 (by simp:x∈x::a)) with h|h
      ·exact absurd h e
      ·exact h
     have hy:y∈a:=by
      rcases List.mem_cons.1 (hp.mem_iff.2 (by simp:y∈y::b)) with h|h
      ·exact absurd h.symm e
      ·exact h
     have g1:=h1.1 y hy
     have g2:=h2.1 x hx
     rw[pU] at g1
     have:oK x y=0:=by omega
     exact uM.1 this
   subst hxy
   rw[ih (List.Perm.cons_inv hp) h1.2 h2.2]
def zS:T->Elem
 | .agg [.lit (.int _ v),.sl _ _ l]=>⟨v,l.map vF⟩
 |_=>default
theorem EZ(e:Elem):zS (fU e)=e:=by
 obtain⟨v,c⟩:=e
 simp only[fU,zS]
 congr 1
 rw[List.map_map]
 conv=>rhs; rw[<- List.map_id c]
 exact List.map_congr_left fun x _=>rfl
theorem S.ac4{x y:Elem}(hx:x.counts.length<2^40)(hy:y.counts.length<2^40):tN Tryz.prog 51 [fU x,fU y] (.int (oK x y)):=S.jX x y hx hy
theorem VK(l:List Elem):(h1 l).aj=upd no 0 (some ⟨38,3,l.map fU⟩):=by
 show Hz.aj ((0,some (jE l))::[])=_
 rw[aZ]
 simp[jE,OV.aG,Rw.aS,V.aS]; rfl
theorem aan: ∀ w,(isAgg 38).run Tryz.prog w= .ok true w:=fun w=>pV (k:=3) (by kernel_rfl)
theorem abT: ∀ w,(Go.sizeOf 38).run Tryz.prog w= .ok 2 w:=fun w=>gB (k:=3) (by kernel_rfl)
theorem S.SortFunc(l:List Elem)(n:Nat)(hl:l.length<2^30)(hs:wS l) :
  aF Tryz.prog 50 (V.aS [.own 0,.fn 51 []]) (h1 l).aj n (fun t hp=>t= .dM []/\hp=(h1 (oN l)).aj):=by
 by_cases hne:l=[]
 ·subst hne
  exact S.Yb n
 ·have hx: ∀ t∈l.map fU,∃ e∈l,t=fU e:=fun t ht=>by obtain⟨e,he,rfl⟩:=List.mem_map.1 ht; exact⟨e,he,rfl⟩
  have H:=aF.sort (n:=n) Tryz.laySort 2 (by decide) aan abT (by exact Bd.bU.cl) (g:=51) (by decide) (by exact Bd.jX.cl) (l:=l.map fU) (by simpa using hne)
   (fun t ht=>by obtain⟨e,_,rfl⟩:=hx t ht; rfl) (tH l) (by simp; omega) (fun x y=>oK (zS x) (zS y))
   (fun t ht=>by rw[uM.2 rfl]; decide)
   (fun x _ y _ z _ h1 h2=>Gz h1 h2)
   (fun x _ y _ z _ h1 h2=>zQ h2 h1)
   (fun x hx1 y hy1=>by
    obtain⟨a,ha,rfl⟩:=hx x hx1
    obtain⟨b,hb,rfl⟩:=hx y hy1
    simp only[EZ]; exact S.ac4 (hs a ha) (hs b hb))
   (by decide) ⟨(oN l).map fU,(tK l).map fU,by
    rw[List.pairwise_map]; simp only[EZ]; exact DF l⟩ (h:=(h1 l).aj) (i:=0) (ty:=38) (by rw[VK]; rfl)
  refine aF.mono H ?_
  rintro t hp ⟨rfl,l',hp',hpw,rfl⟩
  refine⟨rfl,?_⟩
  have hl':l'=(l'.map zS).map fU:=by
   rw[List.map_map]
   conv=>lhs; rw[<- List.map_id l']
   refine List.map_congr_left fun t ht=>?_
   obtain⟨e,_,rfl⟩:=hx t (hp'.mem_iff.1 ht)
   simp[EZ]
  have hperm:(l'.map zS).Perm l:=by
   have:=hp'.map zS
   rw[List.map_map] at this
   have e:l.map (zS ∘ fU)=l:=by
    conv=>rhs; rw[<- List.map_id l]
    exact List.map_congr_left fun e _=>EZ e
   rw[e] at this; exact this
  have hsrt:BJ (l'.map zS):=by
   unfold BJ; rw[List.pairwise_map]; exact hpw
  have heq:l'.map zS=oN l:=O8 (hperm.trans (tK l).symm) hsrt (DF l)
  rw[VK,VK]
  rw[hl',heq]
  funext j
  simp only[upd]; split<;>rfl
def uI(l:List Elem):List Elem:=qQ (oN l)
theorem IX(l:List Elem):(oN l).length=l.length:=(tK l).length_eq
theorem MV{l:List Elem}(h:wS l):wS (oN l):=fun e he=>h e ((tK l).mem_iff.1 he)
theorem S.sU(l:List Elem)(n:Nat)(hl:l.length<2^30)(hs:wS l) :
  aF Tryz.prog 27 (V.aS [.own 0]) (h1 l).aj n
   (fun t hp=>(t= .own 0/\hp=(h1 (uI l)).aj)\/(∃ m,t= .nC 0 0 (uI l).length/\hp=Hz.aj [(0,some (.row 38 3 (.elems (uI l)) (List.replicate m zeroV)))])):=by
 refine lV.of (nx:=1) Bd.sU (by simp) ⟨_,_,.inl ⟨rfl,rfl⟩⟩ rfl rfl ?_
 conv=>whnf
 refine ah.heap (S.SortFunc l _ hl hs) ?_
 rintro t hp ⟨rfl,rfl⟩
 refine⟨.dM [],h1 (oN l),rfl,rfl,?_⟩
 conv=>whnf
 refine ah.heap (S.MS (oN l) _ (by rw[IX]; exact hl) (MV hs)) ?_
 rintro t hp (⟨hc,rfl,rfl⟩|⟨m,rfl,rfl⟩)
 ·refine⟨.own 0,h1 (oN l),rfl,rfl,?_⟩
  conv=>whnf
  refine fV.one (c:=0) (j:=0) (o:=jE (oN l)) (t:=.own 0) rfl rfl rfl (fun _=>rfl) (.inl rfl) rfl (.eq rfl) (.inl ⟨rfl,?_⟩)
  rw[uI,hc]
 ·refine⟨.nC 0 0 (qQ (oN l)).length,[(0,some (.row 38 3 (.elems (qQ (oN l))) (List.replicate m zeroV)))],rfl,rfl,?_⟩
  conv=>whnf
  exact fV.one (c:=0) (j:=0) (o:=.row 38 3 (.elems (qQ (oN l))) (List.replicate m zeroV)) (t:=.nC 0 0 (qQ (oN l)).length) rfl (MR _ _ _) (JY _ _) (fun _=>rfl) (.inl rfl) rfl (.eq rfl) (.inr ⟨m,rfl,rfl⟩)
theorem aA.acV{h:Hz}{j m:Nat}{l:List Elem}(q:h.get j=some (.row 38 3 (.elems l) (List.replicate m zeroV))):aA (.row 3 false (.elems l)) (.nC j 0 l.length) h:=⟨by
 show T.sub (fun _=>True) h.aj (.sl 3 false (l.map fU)) (.nC j 0 l.length)
 simp only[T.sub]
 refine⟨trivial,trivial,tH l,by decide,38,l.map fU++V.aS (List.replicate m zeroV),?_,by simp,by simp⟩
 exact aJ q⟩
def SS(l:List Elem):Prop:=l.Pairwise fun a b=>oK a b<0
theorem Tj{l:List Elem}(hs:BJ l): ∀ n,n<=l.length->SS (qJ l n)/\(∀ x,x∈qJ l n↔x∈l.take n)/\(∀ x∈qJ l n,n<l.length-> ¬ oK (l.getD n default) x<0):=by
 intro n
 induction n with
 |zero=>intro _; exact⟨by simp[SS,qJ],by simp[qJ],by simp[qJ]⟩
 |succ n ih =>
  intro hn
  obtain⟨h1,h2,h3⟩:=ih (by omega)
  have hnl:n<l.length:=by omega
  have hmono: ∀ i j,i<=j->j<l.length-> ¬ oK (l.getD j default) (l.getD i default)<0:=by
   intro i j hij hj
   by_cases e:i=j
   ·subst e; rw[uM.2 rfl]; decide
   ·have:=List.pairwise_iff_getElem.1 hs i j (by omega) hj (by omega)
    simpa [hj,show i<l.length by omega] using this
  have htake: ∀ x,x∈l.take n-> ∃ i,i<n/\l.getD i default=x:=by
   intro x hx
   rw[List.mem_take_iff_getElem] at hx
   obtain⟨i,hi,e⟩:=hx
   exact⟨i,by omega,by rw[<- e]; simp[show i<l.length by omega]⟩
  have hlast:l.take (n+1)=l.take n++[l.getD n default]:=by
   rw[List.take_add_one]; simp[hnl]
  simp only[qJ]
  split
  ·rename_i hc
   refine⟨?_,?_,?_⟩
   ·simp only[SS,List.pairwise_append]
    refine⟨h1,by simp,fun x hx y hy=>?_⟩
    rw[List.mem_singleton] at hy; subst hy
    have hge:=h3 x hx hnl
    rw[pU] at hge
    have hne:oK x (l.getD n default)≠0:=by
     intro e
     rw[uM] at e
     rcases hc with hc|hc
     ·subst hc; simp[qJ] at hx
     ·obtain⟨i,hi,hix⟩:=htake x ((h2 x).1 hx)
      have g1:=hmono i (n-1) (by omega) (by omega)
      have g2:=hmono (n-1) n (by omega) hnl
      rw[hix,e] at g1
      rw[pU] at g1
      have:oK (l.getD n default) (l.getD (n-1) default)=0:=by omega
      exact hc (uM.1 this)
    omega
   ·intro x
    rw[hlast]
    simp only[List.mem_append,h2]
   ·intro x hx hn1
    rcases List.mem_append.1 hx with hx|hx
    ·obtain⟨i,hi,hix⟩:=htake x ((h2 x).1 hx)
     rw[<- hix]; exact hmono i (n+1) (by omega) hn1
    ·rw[List.mem_singleton] at hx; subst hx
     exact hmono n (n+1) (by omega) hn1
  ·rename_i hc
   have hc':n≠0/\l.getD n default=l.getD (n-1) default:=by
    constructor
    ·intro e; exact hc (.inl e)
    ·by_cases e:l.getD n default=l.getD (n-1) default
     ·exact e
     ·exact absurd (.inr e) hc
   refine⟨h1,fun x=>?_,fun x hx hn1=>?_⟩
   ·rw[hlast,h2]
    simp only[List.mem_append,List.mem_singleton]
    constructor
    ·exact .inl
    ·rintro(h|h)
     ·exact h
     ·rw[h,hc'.2]
      rw[List.mem_take_iff_getElem]
      exact⟨n-1,by omega,by simp[show n-1<l.length by omega]⟩
   ·obtain⟨i,hi,hix⟩:=htake x ((h2 x).1 hx)
    rw[<- hix]; exact hmono i (n+1) (by omega) hn1
theorem IZ(l:List Elem)(x:Elem):x∈uI l↔x∈l:=by
 unfold uI qQ
 rw[(Tj (DF l) _ (Nat.le_refl _)).2.1,List.take_length]
 exact(tK l).mem_iff
end Go.Proofs.YtiakcepnlcpanaaGreatDoor
