/-
 A part of the proof. No condition.
-/
import Derived.Test.YtkomllaebngbfaaGreatDoorSb
import Derived.Test.YtkomllaebngbfaaGreatDoorLg
import Derived.Test.YtkomllaebngbfaaGreatDoorLe
import Derived.Test.YtkomllaebngbfaaGreatDoorSc
namespace Go.Proofs.YtkomllaebngbfaaGreatDoor
open Go.Ab Go.Proofs
set_option maxRecDepth 100000
def Oi(a b:Int):Int:=if a<b then -1 else if b<a then 1 else 0
def cmpL:List Int->List Int->Int
 |[],[]=>0
 |[],_::_=> -1
 |_::_,[]=>1
 |x::a,y::b=>if x<y then -1 else if y<x then 1 else cmpL a b
def AO(a b:Elem):Int:=if a.value<b.value then -1 else if b.value<a.value then 1 else cmpL a.counts b.counts
theorem dM{α:Type}{l:List α}{i:Nat}(d:α)(h:i<l.length):l.drop i=l.getD i d::l.drop (i+1):=by
 rw[List.drop_eq_getElem_cons h]; simp[h]
theorem Ik{a b:List Int}{i:Nat}(ha:i<a.length)(hb:i<b.length) :
  cmpL (a.drop i) (b.drop i)=if a.getD i 0<b.getD i 0 then -1 else if b.getD i 0<a.getD i 0 then 1 else cmpL (a.drop (i+1)) (b.drop (i+1)):=by
 rw[dM 0 ha,dM 0 hb]; rfl
theorem AY{a b:List Int}{i:Nat}(hi:a.length<=i\/b.length<=i)(h1:i<=a.length)(h2:i<=b.length) :
  cmpL (a.drop i) (b.drop i)=if a.length<b.length then -1 else if b.length<a.length then 1 else 0:=by
 by_cases ha:a.length<=i
 ·have e:a.drop i=[]:=List.drop_eq_nil_of_le ha
  rw[e]
  by_cases hb:b.length<=i
  ·rw[List.drop_eq_nil_of_le hb,if_neg (by omega),if_neg (by omega)]; rfl
  ·rw[dM 0 (by omega),if_pos (by omega)]; rfl
 ·have hb:b.length<=i:=by omega
  rw[List.drop_eq_nil_of_le hb,dM 0 (by omega),if_neg (by omega),if_pos (by omega)]; rfl
theorem S.cmp_isNaN_int(a:Int):aj Tryz.prog 169 [.int a] (.bool false):=by
 refine aj.of Bd.cmp_isNaN_int (by simp) rfl rfl ?_
 conv=>whnf
 refine ak.bool ?_
 simp
theorem S.cmp_Compare_int(a b:Int):aj Tryz.prog 146 [.int a,.int b] (.int (Oi a b)):=by
 refine aj.of Bd.cmp_Compare_int (by simp) rfl rfl ?_
 conv=>whnf
 refine ah.pure (S.cmp_isNaN_int a) rfl ?_
 conv=>whnf
 refine ah.pure (S.cmp_isNaN_int b) rfl ?_
 conv=>whnf
 refine Fork.mk (fun h1=>by cases h1) (fun _=>?_)
 conv=>whnf
 refine Fork.mk (fun h1=>by cases h1) (fun _=>?_)
 conv=>whnf
 refine⟨fun h1=>?_,fun h1=>?_⟩
 ·conv=>whnf
  exact ak.int (by simp only[decide_eq_true_eq] at h1; simp[Oi,h1])
 ·conv=>whnf
  simp only[decide_eq_false_iff_not] at h1
  refine⟨fun h2=>?_,fun h2=>?_⟩
  ·conv=>whnf
   exact ak.int (by simp only[decide_eq_true_eq] at h2; simp[Oi,h1,h2])
  ·conv=>whnf
   exact ak.int (by simp only[decide_eq_false_iff_not] at h2; simp[Oi,h1,h2])
theorem S.EZ(a b:List Int)(ha:a.length<2^40)(hb:b.length<2^40):aj Tryz.prog 147 [.row 0 false (.ints a),.row 0 false (.ints b)] (.int (cmpL a b)):=by
 refine aj.of Bd.fU (by simp) rfl rfl ?_
 conv=>whnf
 refine aX.same [0,1,9,10] (fun i:Nat=>[(11,.int i)]) (fun i=>i<=a.length/\i<=b.length/\cmpL a b=cmpL (a.drop i) (b.drop i)) (fun i=>a.length-i) 0 rfl (by decide) rfl (fun _=>rfl) ⟨by omega,by omega,rfl⟩ ⟨⟨_,rfl,rfl⟩,trivial⟩ ?_
 conv=>whnf
 refine⟨rfl,?_⟩
 rintro i ⟨hi,hj,he⟩
 conv=>whnf
 refine⟨fun h3=>?_,fun h3=>?_⟩
 ·have hi':i<a.length:=by simpa using h3
  conv=>whnf
  refine .mk (by simp only[Rw.rng] at *; first|omega|(simp_all; done)|(simp_all; omega)) ?_
  conv=>whnf
  refine⟨fun h4=>?_,fun h4=>?_⟩
  ·conv=>whnf
   have hb':b.length<=i:=by simpa using h4
   refine ak.int ?_
   rw[he,AY (.inr hb') hi hj,if_neg (by omega),if_pos (by omega)]
  ·have hb':i<b.length:=by simpa using h4
   conv=>whnf
   refine .mk (by simp only[Rw.rng] at *; first|omega|(simp_all; done)|(simp_all; omega)) ?_
   conv=>whnf
   refine ah.pure (S.cmp_Compare_int _ _) rfl ?_
   rw[Ik hi' hb'] at he
   conv=>whnf
   simp only[Int.toNat_natCast]
   refine⟨fun h5=>?_,fun h5=>?_⟩
   ·conv=>whnf
    refine ak.int ?_
    rw[he]
    simp only[bne_iff_ne,ne_eq] at h5 ⊢
    generalize a.getD i 0=x at h5 ⊢
    generalize b.getD i 0=y at h5 ⊢
    unfold Oi at h5 ⊢
    by_cases h6:x<y
    ·simp[h6]
    ·by_cases h7:y<x
     ·simp[h6,h7]
     ·simp[h6,h7] at h5
   ·conv=>whnf
    refine .mk (by simp only[okI] at *; first|omega|(simp_all; done)|(simp_all; omega)) ?_
    conv=>whnf
    have h6: ¬ a.getD i 0<b.getD i 0/\ ¬ b.getD i 0<a.getD i 0:=by
     simp only[bne_eq_false_iff_eq] at h5
     generalize a.getD i 0=x at h5 ⊢
     generalize b.getD i 0=y at h5 ⊢
     unfold Oi at h5
     by_cases h6:x<y
     ·simp[h6] at h5
     ·by_cases h7:y<x
      ·simp[h6,h7] at h5
      ·exact⟨h6,h7⟩
    refine⟨i+1,⟨by omega,by omega,by rw[he,if_neg h6.1,if_neg h6.2]⟩,by omega,⟨⟨_,rfl,rfl⟩,trivial⟩,?_,rfl⟩
    repeat' (first|exact trivial|exact⟨_,rfl,rfl⟩|constructor)
 ·have hi':a.length<=i:=by simpa using h3
  conv=>whnf
  refine⟨fun h4=>?_,fun h4=>?_⟩
  ·conv=>whnf
   refine ak.int ?_
   rw[he,AY (.inl hi') hi hj,if_pos (by simpa using h4)]
  ·conv=>whnf
   refine ak.int ?_
   have:b.length<=a.length:=by simpa using h4
   rw[he,AY (.inl hi') hi hj,if_neg (by omega),if_neg (by omega)]
theorem S.oC(x y:Int)(f:Bool):aj Tryz.prog 145 [.row 0 f (.ints [x,y])] (.int (if x≠0 then x else y)):=by
 refine aj.of Bd.oC (by simp) rfl rfl ?_
 conv=>whnf
 refine aX.same [3,6,7] (fun i:Nat=>[(8,.int i)]) (fun i=>i<=2/\(0<i->x=0)/\(1<i->y=0)) (fun i=>2-i) 0 rfl (by decide) rfl (fun _=>rfl) ⟨by omega,by omega,by omega⟩ ⟨⟨_,rfl,rfl⟩,trivial⟩ ?_
 conv=>whnf
 refine⟨rfl,?_⟩
 rintro i ⟨hi,h0,h1⟩
 conv=>whnf
 refine⟨fun h3=>?_,fun h3=>?_⟩
 ·have hi':i<2:=by simp at h3; omega
  conv=>whnf
  refine .mk (by simp only[Rw.rng,List.length_cons,List.length_nil]; omega) ?_
  conv=>whnf
  refine⟨fun h4=>?_,fun h4=>?_⟩
  ·conv=>whnf
   refine ak.int ?_
   simp only[Int.toNat_natCast,bne_iff_ne,ne_eq] at h4 ⊢
   by_cases e:i=0
   ·subst e; simp at h4 ⊢; simp[h4]
   ·have:i=1:=by omega
    subst this; simp at h4 ⊢; simp[h0]
  ·conv=>whnf
   refine .mk (by simp only[okI] at *; first|omega|(simp_all; done)|(simp_all; omega)) ?_
   conv=>whnf
   refine⟨i+1,⟨by omega,fun _=>?_,fun hlt=>?_⟩,by omega,⟨⟨_,rfl,rfl⟩,trivial⟩,?_,rfl⟩
   ·by_cases e:i=0
    ·subst e; simpa using h4
    ·exact h0 (by omega)
   ·have:i=1:=by omega
    subst this; simpa using h4
   ·repeat' (first|exact trivial|exact⟨_,rfl,rfl⟩|constructor)
 ·have:i=2:=by simp at h3; omega
  subst this
  conv=>whnf
  refine ak.int ?_
  simp[h0,h1]
theorem S.jo(a b:Elem)(ha:a.counts.length<2^40)(hb:b.counts.length<2^40):aj Tryz.prog 100 [.dat (.elem a),.dat (.elem b)] (.int (AO a b)):=by
 refine aj.of Bd.jo (by simp) rfl rfl ?_
 conv=>whnf
 refine ah.pure (S.cmp_Compare_int a.value b.value) rfl ?_
 conv=>whnf
 refine ah.pure (S.EZ a.counts b.counts ha hb) rfl ?_
 conv=>whnf
 refine ah.pure (S.oC _ _ true) rfl ?_
 conv=>whnf
 refine ak.int ?_
 unfold AO Oi
 by_cases h6:a.value<b.value
 ·simp[h6]
 ·by_cases h7:b.value<a.value
  ·simp[h6,h7]
  ·simp[h6,h7]
def N8(l:List Elem):Prop:= ∀ e∈l,e.counts.length<2^40
theorem kL{α:Type}{l:List α}{p:α->Bool}{d:α}{i:Nat}(hi:i<l.length)(h:(l.take i).any p=false):(l.take (i+1)).any p=p (l.getD i d):=by
 rw[List.take_add_one,List.any_append,h,Bool.false_or]
 simp[hi]
theorem iY{α:Type}{l:List α}{p:α->Bool}{d:α}{i:Nat}(hi:i<l.length)(h:p (l.getD i d)=true):l.any p=true:=by
 rw[List.any_eq_true]
 exact⟨l[i],List.getElem_mem hi,by simpa [hi] using h⟩
theorem S.pW(a b:List Int)(ha:a.length<2^40)(hb:b.length<2^40):aj Tryz.prog 122 [.row 0 false (.ints a),.row 0 false (.ints b)] (.int (cmpL a b)):=by
 refine aj.of Bd.pW (by simp) rfl rfl ?_
 conv=>whnf
 refine aX.same [0,1] (fun i:Nat=>[(5,.int i)]) (fun i=>i<=a.length/\i<=b.length/\cmpL a b=cmpL (a.drop i) (b.drop i)) (fun i=>a.length-i) 0 rfl (by decide) rfl (fun _=>rfl) ⟨by omega,by omega,rfl⟩ ⟨⟨_,rfl,rfl⟩,trivial⟩ ?_
 conv=>whnf
 refine⟨rfl,?_⟩
 rintro i ⟨hi,hj,he⟩
 conv=>whnf
 repeat(refine VC.mk (by first|exact id|exact fun h=>⟨h,h⟩) ?_; conv=>whnf)
 refine⟨fun h3=>?_,fun h3=>?_⟩
 ·have hi':i<a.length/\i<b.length:=by
   by_cases h:i<a.length
   ·simp[h] at h3; exact⟨h,by omega⟩
   ·simp[h] at h3
  rw[Ik hi'.1 hi'.2] at he
  obtain⟨hi1,hi2⟩:=hi'
  conv=>whnf
  repeat(refine VC.mk (by simp only[Rw.rng] at *; first|omega|(simp_all; done)|(simp_all; omega)) ?_; conv=>whnf)
  refine⟨fun h5=>?_,fun h5=>?_⟩
  ·conv=>whnf
   refine ak.int ?_
   simp only[Int.toNat_natCast,decide_eq_true_eq] at h5
   rw[he,if_pos h5]
  ·conv=>whnf
   repeat(refine VC.mk (by simp only[Rw.rng] at *; first|omega|(simp_all; done)|(simp_all; omega)) ?_; conv=>whnf)
   simp only[Int.toNat_natCast,decide_eq_false_iff_not] at h5
   refine⟨fun h6=>?_,fun h6=>?_⟩
   ·conv=>whnf
    refine ak.int ?_
    simp only[Int.toNat_natCast,decide_eq_true_eq] at h6
    rw[he,if_neg h5,if_pos h6]
   ·conv=>whnf
    refine .mk (by simp only[okI] at *; first|omega|(simp_all; done)|(simp_all; omega)) ?_
    conv=>whnf
    simp only[Int.toNat_natCast,decide_eq_false_iff_not] at h6
    refine⟨i+1,⟨by omega,by omega,by rw[he,if_neg h5,if_neg h6]⟩,by omega,⟨⟨_,rfl,rfl⟩,trivial⟩,?_,rfl⟩
    repeat' (first|exact trivial|exact⟨_,rfl,rfl⟩|constructor)
 ·have hi':a.length<=i\/b.length<=i:=by
   by_cases h:i<a.length
   ·simp[h] at h3; exact .inr (by omega)
   ·exact .inl (by omega)
  have hx:=AY hi' hi hj
  rw[<- he] at hx
  conv=>whnf
  refine⟨fun h4=>?_,fun h4=>?_⟩
  ·conv=>whnf
   refine ak.int ?_
   rw[hx,if_pos (by simpa using h4)]
  ·conv=>whnf
   have h5: ¬ a.length<b.length:=by simpa using h4
   refine⟨fun h6=>?_,fun h6=>?_⟩
   ·conv=>whnf
    refine ak.int ?_
    rw[hx,if_neg h5,if_pos (by simpa using h6)]
   ·conv=>whnf
    refine ak.int ?_
    rw[hx,if_neg h5,if_neg (by simpa using h6)]
theorem S.kT(a b:Elem)(ha:a.counts.length<2^40)(hb:b.counts.length<2^40):aj Tryz.prog 77 [.dat (.elem a),.dat (.elem b)] (.int (AO a b)):=by
 refine aj.of Bd.kT (by simp) rfl rfl ?_
 conv=>whnf
 refine⟨fun h1=>?_,fun h1=>?_⟩
 ·conv=>whnf
  exact ak.int (by simp only[decide_eq_true_eq] at h1; simp[AO,h1])
 ·conv=>whnf
  simp only[decide_eq_false_iff_not] at h1
  refine⟨fun h2=>?_,fun h2=>?_⟩
  ·conv=>whnf
   exact ak.int (by simp only[decide_eq_true_eq] at h2; simp[AO,h1,h2])
  ·simp only[decide_eq_false_iff_not] at h2
   conv=>whnf
   refine ah.pure (S.pW a.counts b.counts ha hb) rfl ?_
   conv=>whnf
   exact ak.int (by simp[AO,h1,h2])
theorem cmpL_eq: ∀ {a b:List Int},cmpL a b=0↔a=b:=by
 intro a
 induction a with
 |nil=>intro b; cases b<;>simp[cmpL]
 |cons x a ih =>
  intro b
  cases b with
  |nil=>simp[cmpL]
  |cons y b =>
   simp only[cmpL]
   split
   ·simp; omega
   ·split
    ·simp; omega
    ·rw[ih]; simp; intro _; omega
theorem Jf{a b:Elem}:AO a b=0↔a=b:=by
 obtain⟨v,c⟩:=a; obtain⟨w,d⟩:=b
 simp only[AO]
 split
 ·simp; omega
 ·split
  ·simp; omega
  ·rw[cmpL_eq]; simp; intro _; omega
def CG(n:Int):Bool:=decide (0<=n)&&decide (n<=1048576)
theorem S.jr(l:List Int)(f:Bool)(hl:l.length<2^40):aj Tryz.prog 144 [.row 0 f (.ints l)] (.bool (l.all CG)):=by
 refine aj.of Bd.jr (by simp) rfl rfl ?_
 conv=>whnf
 refine aX.same [5,6] (fun i:Nat=>[(7,.int i)]) (fun i=>i<=l.length/\(l.take i).all CG=true) (fun i=>l.length-i) 0 rfl (by decide) rfl (fun _=>rfl) ⟨by omega,by simp⟩ ⟨⟨_,rfl,rfl⟩,trivial⟩ ?_
 conv=>whnf
 refine⟨rfl,?_⟩
 rintro i ⟨hi,hall⟩
 conv=>whnf
 refine⟨fun h3=>?_,fun h3=>?_⟩
 ·have hi':i<l.length:=by simpa using h3
  conv=>whnf
  repeat(refine VC.mk (by first|exact id|(intro h; rw[h]; rfl)|(simp only[Rw.rng] at *; first|omega|(simp_all; done)|(simp_all; omega))) ?_; conv=>whnf)
  refine⟨fun h4=>?_,fun h4=>?_⟩
  ·conv=>whnf
   refine ak.bool ?_
   simp only[Int.toNat_natCast] at h4
   have h5:CG (l.getD i 0)=false:=by
    have key: ∀ x:Int,(decide (x<0)||decide (1048576<x))=true->CG x=false:=by
     intro x h4
     unfold CG
     by_cases h0:x<0
     ·simp; omega
     ·simp[h0] at h4; simp; omega
    exact key _ h4
   rw[Bool.eq_false_iff]
   intro h
   rw[List.all_eq_true] at h
   have:=h l[i] (List.getElem_mem hi')
   rw[show l.getD i 0=l[i] by simp[hi']] at h5
   rw[this] at h5; cases h5
  ·conv=>whnf
   refine .mk (by simp only[okI] at *; first|omega|(simp_all; done)|(simp_all; omega)) ?_
   conv=>whnf
   simp only[Int.toNat_natCast] at h4
   refine⟨i+1,⟨by omega,?_⟩,by omega,⟨⟨_,rfl,rfl⟩,trivial⟩,?_,rfl⟩
   ·have h5:CG (l.getD i 0)=true:=by
     have key: ∀ x:Int,(decide (x<0)||decide (1048576<x))=false->CG x=true:=by
      intro x h4
      unfold CG
      by_cases h0:x<0
      ·simp[h0] at h4
      ·simp[h0] at h4; simp; omega
     exact key _ h4
    rw[List.take_add_one,List.all_append,hall]
    simpa [hi'] using h5
   ·repeat' (first|exact trivial|exact⟨_,rfl,rfl⟩|constructor)
 ·conv=>whnf
  refine ak.bool ?_
  have hi':l.length<=i:=by simpa using h3
  rw[List.take_of_length_le hi'] at hall; exact hall
def uY(e:Elem):Int:=if 6<e.counts.length then 0 else if e.counts.all CG=true then e.counts.sum else 0
theorem uZ: ∀ {l:List Int},l.all CG=true->0<=l.sum/\l.sum<=l.length*1048576:=by
 intro l
 induction l with
 |nil=>intro _; simp
 |cons x l ih =>
  intro h
  simp only[List.all_cons,Bool.and_eq_true,CG,decide_eq_true_eq] at h
  have:=ih h.2
  simp only[List.sum_cons,List.length_cons]
  omega
theorem LD{l:List Int}(h:l.all CG=true)(i:Nat):(l.take i).all CG=true:=by
 rw[List.all_eq_true] at h ⊢
 exact fun x hx=>h x (List.mem_of_mem_take hx)
theorem EX{l:List Int}{i:Nat}(hi:i<l.length):(l.take (i+1)).sum=(l.take i).sum+l.getD i 0:=by
 rw[List.take_add_one,List.sum_append]; simp[hi]
theorem S.jl(e:Elem)(hl:e.counts.length<2^40):aj Tryz.prog 97 [.dat (.elem e)] (.int (uY e)):=by
 refine aj.of Bd.jl (by simp) rfl rfl ?_
 conv=>whnf
 repeat(refine VC.mk id ?_; conv=>whnf)
 refine ah.eY (fun _=>S.jr e.counts false hl) rfl ?_
 conv=>whnf
 repeat(refine VC.mk (by first|exact id|(intro h; rw[h]; rfl)) ?_; conv=>whnf)
 refine⟨fun h1=>?_,fun h1=>?_⟩
 ·conv=>whnf
  refine ak.int ?_
  unfold uY
  by_cases h:6<e.counts.length
  ·rw[if_pos h]
  ·rw[if_neg h,if_neg]
   have h': ¬ (6:Int)<e.counts.length:=by omega
   simp[h'] at h1
   intro hh
   rw[List.all_eq_true] at hh
   obtain⟨x,hx,hx'⟩:=h1
   exact absurd (hh x hx) (by simp[hx'])
 ·have h2: ¬ 6<e.counts.length/\e.counts.all CG=true:=by
   by_cases h:(6:Int)<e.counts.length
   ·simp[h] at h1
   ·simp[h] at h1
    exact⟨by omega,by rw[List.all_eq_true]; exact h1⟩
  conv=>whnf
  refine aX.same [17,18] (fun i:Nat=>[(19,.int i),(3,.int (e.counts.take i).sum)]) (fun i=>i<=e.counts.length) (fun i=>e.counts.length-i) 0 rfl (by decide) rfl (fun _=>rfl) (by omega) ⟨⟨_,rfl,rfl⟩,⟨_,rfl,rfl⟩,trivial⟩ ?_
  conv=>whnf
  refine⟨rfl,?_⟩
  rintro i hi
  have hb:=uZ (LD h2.2 i)
  have hb':((e.counts.take i).length:Int)<=6:=by simp; omega
  conv=>whnf
  refine⟨fun h3=>?_,fun h3=>?_⟩
  ·have hi':i<e.counts.length:=by simpa using h3
   have hs:=EX hi'
   have hc:=uZ (LD h2.2 (i+1))
   have hc':((e.counts.take (i+1)).length:Int)<=6:=by simp; omega
   conv=>whnf
   repeat(refine VC.mk (by first|(simp only[okI,Int.toNat_natCast] at *; rw[<- hs]; omega)|(simp only[okI,Rw.rng] at *; first|omega|(simp_all; done)|(simp_all; omega))) ?_; conv=>whnf)
   refine⟨i+1,by omega,by omega,⟨⟨_,rfl,rfl⟩,⟨_,rfl,?_⟩,trivial⟩,?_,rfl⟩
   ·rw[hs]; simp[V.aG,pX]
   ·repeat' (first|exact trivial|exact⟨_,rfl,rfl⟩|constructor)
  ·conv=>whnf
   refine ak.int ?_
   have hi':e.counts.length<=i:=by simpa using h3
   rw[List.take_of_length_le hi']
   simp[uY,h2.1,h2.2]
theorem ak.elem{e:Elem}{n ty:Nat}{h:Hz}(q:h.get n=some (.row ty 0 (.ints e.counts) [])):ak (.dat (.elem e)) (.agg [.int e.value,.own n]) h:=⟨by
 show T.sub (fun _=>True) h.aI (uj e) (.agg [.int e.value,.own n])
 simp only[uj,T.sub,T.eU,and_true]
 refine⟨trivial,trivial,trivial,?_,by decide,ty,?_⟩
 ·rw[jv]; intro t ht; obtain⟨x,_,rfl⟩:=List.mem_map.1 ht; rfl
 ·have:=cu q; simpa [OV.bJ,Rw.bQ,V.bQ] using this⟩
theorem ah.lend{P:Program}{dr:Bool}{f:FuncId}{args args':List V}{res:V}{h:Hz}{n:Nat}{K:V->Hz->Prop}{KW:Nat->V->Hz->Prop}(S:aj P f args' res)(hs:T.eU (fun _=>True) h.aI (V.bQ args') (V.bQ args))(hh:res.aG.hard=true)(hr:res.free=true)(hK:K res h):ah P dr none f args h n K KW :=
 ⟨.inl (rE.lend S hs hh (fun _ e=>by cases e) ⟨res,h,rfl,rfl,fun _=>⟨rfl,V.qJ res hr⟩,hK⟩)⟩
theorem N9(l:List Elem):T.aT (l.map uj)=true:=by
 rw[jv]; intro t ht; obtain⟨x,_,rfl⟩:=List.mem_map.1 ht; rfl
theorem jf.of_eq{a b:List T}(h:a=b):jf a b:=by subst h; exact .refl _
theorem ah.TS{P:Program}{dr b:Bool}{f:FuncId}{args args':List V}{res:V}{h:Hz}{n:Nat}{K:V->Hz->Prop}{KW:Nat->V->Hz->Prop}(S:b=true->aj P f args' res)(hs:b=true->T.eU (fun _=>True) h.aI (V.bQ args') (V.bQ args))(hh:res.aG.hard=true)(hr:res.free=true)(hK:K res h):ah P dr (some b) f args h n K KW :=
 ⟨.inl (.inl ⟨res,fun e=>rE.lend (S e) (hs e) hh (fun _ e=>by cases e) ⟨rfl,rfl⟩,hr,hK⟩)⟩
abbrev aco(l:List Elem):OV:=.row 50 3 (.elems l) []
abbrev h1(l:List Elem):Hz:=[(0,some (aco l))]
end Go.Proofs.YtkomllaebngbfaaGreatDoor
