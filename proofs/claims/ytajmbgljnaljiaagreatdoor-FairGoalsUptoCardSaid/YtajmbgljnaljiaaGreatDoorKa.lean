/-
 A part of the proof. No condition.
-/
import Derived.Test.YtajmbgljnaljiaaGreatDoorSb
import Derived.Test.YtajmbgljnaljiaaGreatDoorLg
import Derived.Test.YtajmbgljnaljiaaGreatDoorLe
import Derived.Test.YtajmbgljnaljiaaGreatDoorSc
namespace Go.Proofs.YtajmbgljnaljiaaGreatDoor
open Go.Ab Go.Proofs
set_option maxRecDepth 100000
def PS(a b:Int):Int:=if a<b then -1 else if b<a then 1 else 0
def cmpL:List Int->List Int->Int
 |[],[]=>0
 |[],_::_=> -1
 |_::_,[]=>1
 |x::a,y::b=>if x<y then -1 else if y<x then 1 else cmpL a b
def gW(a b:Elem):Int:=if a.value<b.value then -1 else if b.value<a.value then 1 else cmpL a.counts b.counts
theorem gQ{α:Type}{l:List α}{i:Nat}(d:α)(h:i<l.length):l.drop i=l.getD i d::l.drop (i+1):=by
 rw[List.drop_eq_getElem_cons h]; simp[h]
theorem Jc{a b:List Int}{i:Nat}(ha:i<a.length)(hb:i<b.length) :
  cmpL (a.drop i) (b.drop i)=if a.getD i 0<b.getD i 0 then -1 else if b.getD i 0<a.getD i 0 then 1 else cmpL (a.drop (i+1)) (b.drop (i+1)):=by
 rw[gQ 0 ha,gQ 0 hb]; rfl
theorem Bz{a b:List Int}{i:Nat}(hi:a.length<=i\/b.length<=i)(h1:i<=a.length)(h2:i<=b.length) :
  cmpL (a.drop i) (b.drop i)=if a.length<b.length then -1 else if b.length<a.length then 1 else 0:=by
 by_cases ha:a.length<=i
 ·have e:a.drop i=[]:=List.drop_eq_nil_of_le ha
  rw[e]
  by_cases hb:b.length<=i
  ·rw[List.drop_eq_nil_of_le hb,if_neg (by omega),if_neg (by omega)]; rfl
  ·rw[gQ 0 (by omega),if_pos (by omega)]; rfl
 ·have hb:b.length<=i:=by omega
  rw[List.drop_eq_nil_of_le hb,gQ 0 (by omega),if_neg (by omega),if_pos (by omega)]; rfl
theorem S.cmp_isNaN_int(a:Int):au Tryz.prog 107 [.int a] (.bool false):=by
 refine au.of Bd.cmp_isNaN_int (by simp) rfl rfl ?_
 conv=>whnf
 refine aG.bool ?_
 simp
theorem S.cmp_Compare_int(a b:Int):au Tryz.prog 72 [.int a,.int b] (.int (PS a b)):=by
 refine au.of Bd.cmp_Compare_int (by simp) rfl rfl ?_
 conv=>whnf
 refine ah.pure (S.cmp_isNaN_int a) rfl ?_
 conv=>whnf
 refine ah.pure (S.cmp_isNaN_int b) rfl ?_
 conv=>whnf
 refine Fork.mk (fun h1=>by cases h1) (fun _=>?_)
 conv=>whnf
 refine Fork.mk (fun h1=>by cases h1) (fun _=>?_)
 conv=>whnf
 refine⟨fun h1=>?_,fun h1=>?_⟩
 ·conv=>whnf
  exact aG.int (by simp only[decide_eq_true_eq] at h1; simp[PS,h1])
 ·conv=>whnf
  simp only[decide_eq_false_iff_not] at h1
  refine⟨fun h2=>?_,fun h2=>?_⟩
  ·conv=>whnf
   exact aG.int (by simp only[decide_eq_true_eq] at h2; simp[PS,h1,h2])
  ·conv=>whnf
   exact aG.int (by simp only[decide_eq_false_iff_not] at h2; simp[PS,h1,h2])
theorem S.F7(a b:List Int)(ha:a.length<2^40)(hb:b.length<2^40):au Tryz.prog 73 [.row 0 false (.ints a),.row 0 false (.ints b)] (.int (cmpL a b)):=by
 refine au.of Bd.jS (by simp) rfl rfl ?_
 conv=>whnf
 refine aP.same [0,1,9,10] (fun i:Nat=>[(11,.int i)]) (fun i=>i<=a.length/\i<=b.length/\cmpL a b=cmpL (a.drop i) (b.drop i)) (fun i=>a.length-i) 0 rfl (by decide) rfl (fun _=>rfl) ⟨by omega,by omega,rfl⟩ ⟨⟨_,rfl,rfl⟩,trivial⟩ ?_
 conv=>whnf
 refine⟨rfl,?_⟩
 rintro i ⟨hi,hj,he⟩
 conv=>whnf
 refine⟨fun h3=>?_,fun h3=>?_⟩
 ·have hi':i<a.length:=by simpa using h3
  conv=>whnf
  refine .mk (by simp only[Rw.rng] at *; first|omega|(simp_all; done)|(simp_all; omega)) ?_
  conv=>whnf
  refine⟨fun h4=>?_,fun h4=>?_⟩
  ·conv=>whnf
   have hb':b.length<=i:=by simpa using h4
   refine aG.int ?_
   rw[he,Bz (.inr hb') hi hj,if_neg (by omega),if_pos (by omega)]
  ·have hb':i<b.length:=by simpa using h4
   conv=>whnf
   refine .mk (by simp only[Rw.rng] at *; first|omega|(simp_all; done)|(simp_all; omega)) ?_
   conv=>whnf
   refine ah.pure (S.cmp_Compare_int _ _) rfl ?_
   rw[Jc hi' hb'] at he
   conv=>whnf
   simp only[Int.toNat_natCast]
   refine⟨fun h5=>?_,fun h5=>?_⟩
   ·conv=>whnf
    refine aG.int ?_
    rw[he]
    simp only[bne_iff_ne,ne_eq] at h5 ⊢
    generalize a.getD i 0=x at h5 ⊢
    generalize b.getD i 0=y at h5 ⊢
    unfold PS at h5 ⊢
    by_cases h6:x<y
    ·simp[h6]
    ·by_cases h7:y<x
     ·simp[h6,h7]
     ·simp[h6,h7] at h5
   ·conv=>whnf
    refine .mk (by simp only[okI] at *; first|omega|(simp_all; done)|(simp_all; omega)) ?_
    conv=>whnf
    have h6: ¬ a.getD i 0<b.getD i 0/\ ¬ b.getD i 0<a.getD i 0:=by
     simp only[bne_eq_false_iff_eq] at h5
     generalize a.getD i 0=x at h5 ⊢
     generalize b.getD i 0=y at h5 ⊢
     unfold PS at h5
     by_cases h6:x<y
     ·simp[h6] at h5
     ·by_cases h7:y<x
      ·simp[h6,h7] at h5
      ·exact⟨h6,h7⟩
    refine⟨i+1,⟨by omega,by omega,by rw[he,if_neg h6.1,if_neg h6.2]⟩,by omega,⟨⟨_,rfl,rfl⟩,trivial⟩,?_,rfl⟩
    repeat' (first|exact trivial|exact⟨_,rfl,rfl⟩|constructor)
 ·have hi':a.length<=i:=by simpa using h3
  conv=>whnf
  refine⟨fun h4=>?_,fun h4=>?_⟩
  ·conv=>whnf
   refine aG.int ?_
   rw[he,Bz (.inl hi') hi hj,if_pos (by simpa using h4)]
  ·conv=>whnf
   refine aG.int ?_
   have:b.length<=a.length:=by simpa using h4
   rw[he,Bz (.inl hi') hi hj,if_neg (by omega),if_neg (by omega)]
theorem S.sQ(x y:Int)(f:Bool):au Tryz.prog 71 [.row 0 f (.ints [x,y])] (.int (if x≠0 then x else y)):=by
 refine au.of Bd.sQ (by simp) rfl rfl ?_
 conv=>whnf
 refine aP.same [3,6,7] (fun i:Nat=>[(8,.int i)]) (fun i=>i<=2/\(0<i->x=0)/\(1<i->y=0)) (fun i=>2-i) 0 rfl (by decide) rfl (fun _=>rfl) ⟨by omega,by omega,by omega⟩ ⟨⟨_,rfl,rfl⟩,trivial⟩ ?_
 conv=>whnf
 refine⟨rfl,?_⟩
 rintro i ⟨hi,h0,h1⟩
 conv=>whnf
 refine⟨fun h3=>?_,fun h3=>?_⟩
 ·have hi':i<2:=by simp at h3; omega
  conv=>whnf
  refine .mk (by simp only[Rw.rng,List.length_cons,List.length_nil]; omega) ?_
  conv=>whnf
  refine⟨fun h4=>?_,fun h4=>?_⟩
  ·conv=>whnf
   refine aG.int ?_
   simp only[Int.toNat_natCast,bne_iff_ne,ne_eq] at h4 ⊢
   by_cases e:i=0
   ·subst e; simp at h4 ⊢; simp[h4]
   ·have:i=1:=by omega
    subst this; simp at h4 ⊢; simp[h0]
  ·conv=>whnf
   refine .mk (by simp only[okI] at *; first|omega|(simp_all; done)|(simp_all; omega)) ?_
   conv=>whnf
   refine⟨i+1,⟨by omega,fun _=>?_,fun hlt=>?_⟩,by omega,⟨⟨_,rfl,rfl⟩,trivial⟩,?_,rfl⟩
   ·by_cases e:i=0
    ·subst e; simpa using h4
    ·exact h0 (by omega)
   ·have:i=1:=by omega
    subst this; simpa using h4
   ·repeat' (first|exact trivial|exact⟨_,rfl,rfl⟩|constructor)
 ·have:i=2:=by simp at h3; omega
  subst this
  conv=>whnf
  refine aG.int ?_
  simp[h0,h1]
theorem S.fQ(a b:Elem)(ha:a.counts.length<2^40)(hb:b.counts.length<2^40):au Tryz.prog 45 [.dat (.elem a),.dat (.elem b)] (.int (gW a b)):=by
 refine au.of Bd.fQ (by simp) rfl rfl ?_
 conv=>whnf
 refine ah.pure (S.cmp_Compare_int a.value b.value) rfl ?_
 conv=>whnf
 refine ah.pure (S.F7 a.counts b.counts ha hb) rfl ?_
 conv=>whnf
 refine ah.pure (S.sQ _ _ true) rfl ?_
 conv=>whnf
 refine aG.int ?_
 unfold gW PS
 by_cases h6:a.value<b.value
 ·simp[h6]
 ·by_cases h7:b.value<a.value
  ·simp[h6,h7]
  ·simp[h6,h7]
def eU(l:List Elem):Prop:= ∀ e∈l,e.counts.length<2^40
theorem eU.get{l:List Elem}(h:eU l)(i:Nat):(l.getD i default).counts.length<2^40:=by
 rw[List.getD_eq_getElem?_getD]
 cases e:l[i]? with
 |none=>show([]:List Int).length<2^40; decide
 |some x=>exact h x (List.mem_of_getElem? e)
theorem xY{α:Type}{l:List α}{p:α->Bool}{d:α}{i:Nat}(hi:i<l.length)(h:(l.take i).any p=false):(l.take (i+1)).any p=p (l.getD i d):=by
 rw[List.take_add_one,List.any_append,h,Bool.false_or]
 simp[hi]
theorem sH{α:Type}{l:List α}{p:α->Bool}{d:α}{i:Nat}(hi:i<l.length)(h:p (l.getD i d)=true):l.any p=true:=by
 rw[List.any_eq_true]
 exact⟨l[i],List.getElem_mem hi,by simpa [hi] using h⟩
theorem S.vK(a b:List Int)(ha:a.length<2^40)(hb:b.length<2^40):au Tryz.prog 91 [.row 0 false (.ints a),.row 0 false (.ints b)] (.int (cmpL a b)):=by
 refine au.of Bd.vK (by simp) rfl rfl ?_
 conv=>whnf
 refine aP.same [0,1] (fun i:Nat=>[(5,.int i)]) (fun i=>i<=a.length/\i<=b.length/\cmpL a b=cmpL (a.drop i) (b.drop i)) (fun i=>a.length-i) 0 rfl (by decide) rfl (fun _=>rfl) ⟨by omega,by omega,rfl⟩ ⟨⟨_,rfl,rfl⟩,trivial⟩ ?_
 conv=>whnf
 refine⟨rfl,?_⟩
 rintro i ⟨hi,hj,he⟩
 conv=>whnf
 repeat(refine VC.mk (by first|exact id|exact fun h=>⟨h,h⟩) ?_; conv=>whnf)
 refine⟨fun h3=>?_,fun h3=>?_⟩
 ·have hi':i<a.length/\i<b.length:=by
   by_cases h:i<a.length
   ·simp[h] at h3; exact⟨h,by omega⟩
   ·simp[h] at h3
  rw[Jc hi'.1 hi'.2] at he
  obtain⟨hi1,hi2⟩:=hi'
  conv=>whnf
  repeat(refine VC.mk (by simp only[Rw.rng] at *; first|omega|(simp_all; done)|(simp_all; omega)) ?_; conv=>whnf)
  refine⟨fun h5=>?_,fun h5=>?_⟩
  ·conv=>whnf
   refine aG.int ?_
   simp only[Int.toNat_natCast,decide_eq_true_eq] at h5
   rw[he,if_pos h5]
  ·conv=>whnf
   repeat(refine VC.mk (by simp only[Rw.rng] at *; first|omega|(simp_all; done)|(simp_all; omega)) ?_; conv=>whnf)
   simp only[Int.toNat_natCast,decide_eq_false_iff_not] at h5
   refine⟨fun h6=>?_,fun h6=>?_⟩
   ·conv=>whnf
    refine aG.int ?_
    simp only[Int.toNat_natCast,decide_eq_true_eq] at h6
    rw[he,if_neg h5,if_pos h6]
   ·conv=>whnf
    refine .mk (by simp only[okI] at *; first|omega|(simp_all; done)|(simp_all; omega)) ?_
    conv=>whnf
    simp only[Int.toNat_natCast,decide_eq_false_iff_not] at h6
    refine⟨i+1,⟨by omega,by omega,by rw[he,if_neg h5,if_neg h6]⟩,by omega,⟨⟨_,rfl,rfl⟩,trivial⟩,?_,rfl⟩
    repeat' (first|exact trivial|exact⟨_,rfl,rfl⟩|constructor)
 ·have hi':a.length<=i\/b.length<=i:=by
   by_cases h:i<a.length
   ·simp[h] at h3; exact .inr (by omega)
   ·exact .inl (by omega)
  have hx:=Bz hi' hi hj
  rw[<- he] at hx
  conv=>whnf
  refine⟨fun h4=>?_,fun h4=>?_⟩
  ·conv=>whnf
   refine aG.int ?_
   rw[hx,if_pos (by simpa using h4)]
  ·conv=>whnf
   have h5: ¬ a.length<b.length:=by simpa using h4
   refine⟨fun h6=>?_,fun h6=>?_⟩
   ·conv=>whnf
    refine aG.int ?_
    rw[hx,if_neg h5,if_pos (by simpa using h6)]
   ·conv=>whnf
    refine aG.int ?_
    rw[hx,if_neg h5,if_neg (by simpa using h6)]
theorem S.qK(a b:Elem)(ha:a.counts.length<2^40)(hb:b.counts.length<2^40):au Tryz.prog 57 [.dat (.elem a),.dat (.elem b)] (.int (gW a b)):=by
 refine au.of Bd.qK (by simp) rfl rfl ?_
 conv=>whnf
 refine⟨fun h1=>?_,fun h1=>?_⟩
 ·conv=>whnf
  exact aG.int (by simp only[decide_eq_true_eq] at h1; simp[gW,h1])
 ·conv=>whnf
  simp only[decide_eq_false_iff_not] at h1
  refine⟨fun h2=>?_,fun h2=>?_⟩
  ·conv=>whnf
   exact aG.int (by simp only[decide_eq_true_eq] at h2; simp[gW,h1,h2])
  ·simp only[decide_eq_false_iff_not] at h2
   conv=>whnf
   refine ah.pure (S.vK a.counts b.counts ha hb) rfl ?_
   conv=>whnf
   exact aG.int (by simp[gW,h1,h2])
theorem cmpL_eq: ∀ {a b:List Int},cmpL a b=0↔a=b:=by
 intro a
 induction a with
 |nil=>intro b; cases b<;>simp[cmpL]
 |cons x a ih =>
  intro b
  cases b with
  |nil=>simp[cmpL]
  |cons y b =>
   simp only[cmpL]
   split
   ·simp; omega
   ·split
    ·simp; omega
    ·rw[ih]; simp; intro _; omega
theorem iP{a b:Elem}:gW a b=0↔a=b:=by
 obtain⟨v,c⟩:=a; obtain⟨w,d⟩:=b
 simp only[gW]
 split
 ·simp; omega
 ·split
  ·simp; omega
  ·rw[cmpL_eq]; simp; intro _; omega
theorem S.yg(a b:List Elem)(f g:Bool)(ha:a.length<2^40)(hb:b.length<2^40)(sa:eU a)(sb:eU b):au Tryz.prog 32 [.row 3 f (.elems a),.row 3 g (.elems b)] (.bool (decide (a=b))):=by
 refine au.of Bd.yg (by simp) rfl rfl ?_
 conv=>whnf
 refine⟨fun h1=>?_,fun h1=>?_⟩
 ·conv=>whnf
  refine aG.bool ?_
  refine decide_eq_false ?_
  simp at h1
  rintro rfl; exact h1 rfl
 ·have hlen:a.length=b.length:=by simp at h1; omega
  conv=>whnf
  refine aP.same [0,1] (fun i:Nat=>[(5,.int i)]) (fun i=>i<=a.length/\a.take i=b.take i) (fun i=>a.length-i) 0 rfl (by decide) rfl (fun _=>rfl) ⟨by omega,by simp⟩ ⟨⟨_,rfl,rfl⟩,trivial⟩ ?_
  conv=>whnf
  refine⟨rfl,?_⟩
  rintro i ⟨hi,hall⟩
  conv=>whnf
  refine⟨fun h3=>?_,fun h3=>?_⟩
  ·have hi':i<a.length:=by simpa using h3
   conv=>whnf
   repeat(refine VC.mk (by simp only[Rw.rng] at *; first|omega|(simp_all; done)|(simp_all; omega)) ?_; conv=>whnf)
   refine ah.pure (S.qK _ _ (by simpa using sa.get i) (by simpa using sb.get i)) rfl ?_
   conv=>whnf
   refine⟨fun h4=>?_,fun h4=>?_⟩
   ·conv=>whnf
    refine aG.bool ?_
    refine decide_eq_false ?_
    rintro rfl
    simp only[Int.toNat_natCast,bne_iff_ne,ne_eq] at h4
    exact h4 (iP.2 rfl)
   ·conv=>whnf
    refine .mk (by simp only[okI] at *; first|omega|(simp_all; done)|(simp_all; omega)) ?_
    conv=>whnf
    simp only[Int.toNat_natCast,bne_eq_false_iff_eq] at h4
    rw[iP] at h4
    refine⟨i+1,⟨by omega,?_⟩,by omega,⟨⟨_,rfl,rfl⟩,trivial⟩,?_,rfl⟩
    ·rw[List.take_add_one,List.take_add_one,hall]
     congr 1
     have hb':i<b.length:=by omega
     simp only[List.getD_eq_getElem?_getD,List.getElem?_eq_getElem hi',List.getElem?_eq_getElem hb',Option.getD_some] at h4
     simp[hi',hb',h4]
    ·repeat' (first|exact trivial|exact⟨_,rfl,rfl⟩|constructor)
  ·conv=>whnf
   refine aG.bool ?_
   have hi':a.length<=i:=by simpa using h3
   rw[List.take_of_length_le hi',List.take_of_length_le (by omega)] at hall
   symm; simpa using hall
def Iy(n:Int):Bool:=decide (0<=n)&&decide (n<=1048576)
theorem S.kU(l:List Int)(f:Bool)(hl:l.length<2^40):au Tryz.prog 123 [.row 0 f (.ints l)] (.bool (l.all Iy)):=by
 refine au.of Bd.kU (by simp) rfl rfl ?_
 conv=>whnf
 refine aP.same [5,6] (fun i:Nat=>[(7,.int i)]) (fun i=>i<=l.length/\(l.take i).all Iy=true) (fun i=>l.length-i) 0 rfl (by decide) rfl (fun _=>rfl) ⟨by omega,by simp⟩ ⟨⟨_,rfl,rfl⟩,trivial⟩ ?_
 conv=>whnf
 refine⟨rfl,?_⟩
 rintro i ⟨hi,hall⟩
 conv=>whnf
 refine⟨fun h3=>?_,fun h3=>?_⟩
 ·have hi':i<l.length:=by simpa using h3
  conv=>whnf
  repeat(refine VC.mk (by first|exact id|(intro h; rw[h]; rfl)|(simp only[Rw.rng] at *; first|omega|(simp_all; done)|(simp_all; omega))) ?_; conv=>whnf)
  refine⟨fun h4=>?_,fun h4=>?_⟩
  ·conv=>whnf
   refine aG.bool ?_
   simp only[Int.toNat_natCast] at h4
   have h5:Iy (l.getD i 0)=false:=by
    have key: ∀ x:Int,(decide (x<0)||decide (1048576<x))=true->Iy x=false:=by
     intro x h4
     unfold Iy
     by_cases h0:x<0
     ·simp; omega
     ·simp[h0] at h4; simp; omega
    exact key _ h4
   rw[Bool.eq_false_iff]
   intro h
   rw[List.all_eq_true] at h
   have:=h l[i] (List.getElem_mem hi')
   rw[show l.getD i 0=l[i] by simp[hi']] at h5
   rw[this] at h5; cases h5
  ·conv=>whnf
   refine .mk (by simp only[okI] at *; first|omega|(simp_all; done)|(simp_all; omega)) ?_
   conv=>whnf
   simp only[Int.toNat_natCast] at h4
   refine⟨i+1,⟨by omega,?_⟩,by omega,⟨⟨_,rfl,rfl⟩,trivial⟩,?_,rfl⟩
   ·have h5:Iy (l.getD i 0)=true:=by
     have key: ∀ x:Int,(decide (x<0)||decide (1048576<x))=false->Iy x=true:=by
      intro x h4
      unfold Iy
      by_cases h0:x<0
      ·simp[h0] at h4
      ·simp[h0] at h4; simp; omega
     exact key _ h4
    rw[List.take_add_one,List.all_append,hall]
    simpa [hi'] using h5
   ·repeat' (first|exact trivial|exact⟨_,rfl,rfl⟩|constructor)
 ·conv=>whnf
  refine aG.bool ?_
  have hi':l.length<=i:=by simpa using h3
  rw[List.take_of_length_le hi'] at hall; exact hall
def xQ(e:Elem):Int:=if 6<e.counts.length then 0 else if e.counts.all Iy=true then e.counts.sum else 0
theorem yR: ∀ {l:List Int},l.all Iy=true->0<=l.sum/\l.sum<=l.length*1048576:=by
 intro l
 induction l with
 |nil=>intro _; simp
 |cons x l ih =>
  intro h
  simp only[List.all_cons,Bool.and_eq_true,Iy,decide_eq_true_eq] at h
  have:=ih h.2
  simp only[List.sum_cons,List.length_cons]
  omega
theorem NM{l:List Int}(h:l.all Iy=true)(i:Nat):(l.take i).all Iy=true:=by
 rw[List.all_eq_true] at h ⊢
 exact fun x hx=>h x (List.mem_of_mem_take hx)
theorem Me{l:List Int}{i:Nat}(hi:i<l.length):(l.take (i+1)).sum=(l.take i).sum+l.getD i 0:=by
 rw[List.take_add_one,List.sum_append]; simp[hi]
theorem S.nK(e:Elem)(hl:e.counts.length<2^40):au Tryz.prog 90 [.dat (.elem e)] (.int (xQ e)):=by
 refine au.of Bd.nK (by simp) rfl rfl ?_
 conv=>whnf
 repeat(refine VC.mk id ?_; conv=>whnf)
 refine ah.jC (fun _=>S.kU e.counts false hl) rfl ?_
 conv=>whnf
 repeat(refine VC.mk (by first|exact id|(intro h; rw[h]; rfl)) ?_; conv=>whnf)
 refine⟨fun h1=>?_,fun h1=>?_⟩
 ·conv=>whnf
  refine aG.int ?_
  unfold xQ
  by_cases h:6<e.counts.length
  ·rw[if_pos h]
  ·rw[if_neg h,if_neg]
   have h': ¬ (6:Int)<e.counts.length:=by omega
   simp[h'] at h1
   intro hh
   rw[List.all_eq_true] at hh
   obtain⟨x,hx,hx'⟩:=h1
   exact absurd (hh x hx) (by simp[hx'])
 ·have h2: ¬ 6<e.counts.length/\e.counts.all Iy=true:=by
   by_cases h:(6:Int)<e.counts.length
   ·simp[h] at h1
   ·simp[h] at h1
    exact⟨by omega,by rw[List.all_eq_true]; exact h1⟩
  conv=>whnf
  refine aP.same [17,18] (fun i:Nat=>[(19,.int i),(3,.int (e.counts.take i).sum)]) (fun i=>i<=e.counts.length) (fun i=>e.counts.length-i) 0 rfl (by decide) rfl (fun _=>rfl) (by omega) ⟨⟨_,rfl,rfl⟩,⟨_,rfl,rfl⟩,trivial⟩ ?_
  conv=>whnf
  refine⟨rfl,?_⟩
  rintro i hi
  have hb:=yR (NM h2.2 i)
  have hb':((e.counts.take i).length:Int)<=6:=by simp; omega
  conv=>whnf
  refine⟨fun h3=>?_,fun h3=>?_⟩
  ·have hi':i<e.counts.length:=by simpa using h3
   have hs:=Me hi'
   have hc:=yR (NM h2.2 (i+1))
   have hc':((e.counts.take (i+1)).length:Int)<=6:=by simp; omega
   conv=>whnf
   repeat(refine VC.mk (by first|(simp only[okI,Int.toNat_natCast] at *; rw[<- hs]; omega)|(simp only[okI,Rw.rng] at *; first|omega|(simp_all; done)|(simp_all; omega))) ?_; conv=>whnf)
   refine⟨i+1,by omega,by omega,⟨⟨_,rfl,rfl⟩,⟨_,rfl,?_⟩,trivial⟩,?_,rfl⟩
   ·rw[hs]; simp[V.aF,oV]
   ·repeat' (first|exact trivial|exact⟨_,rfl,rfl⟩|constructor)
  ·conv=>whnf
   refine aG.int ?_
   have hi':e.counts.length<=i:=by simpa using h3
   rw[List.take_of_length_le hi']
   simp[xQ,h2.1,h2.2]
def VT(p:Elem->Bool)(l:List Elem):Int:=if l.any p=true then(l.findIdx p:Int) else -1
theorem HY{p:Elem->Bool}{l:List Elem}{i:Nat}(hi:i<l.length)(h0:(l.take i).any p=false)(h1:p (l.getD i default)=true):l.findIdx p=i:=by
 rw[List.findIdx_eq hi]
 refine⟨by simpa [hi] using h1,fun j hj=>?_⟩
 rw[List.any_eq_false] at h0
 have:=h0 l[j] (by rw[List.mem_take_iff_getElem]; exact⟨j,by omega,rfl⟩)
 simpa using this
theorem aG.elem{e:Elem}{n ty:Nat}{h:Hz}(q:h.get n=some (.row ty 0 (.ints e.counts) [])):aG (.dat (.elem e)) (.agg [.int e.value,.own n]) h:=⟨by
 show T.sub (fun _=>True) h.aj (gV e) (.agg [.int e.value,.own n])
 simp only[gV,T.sub,T.dG,and_true]
 refine⟨trivial,trivial,trivial,?_,by decide,ty,?_⟩
 ·rw[eG]; intro t ht; obtain⟨x,_,rfl⟩:=List.mem_map.1 ht; rfl
 ·have:=aO q; simpa [OV.ay,Rw.aS,V.aS] using this⟩
theorem ah.lend{P:Program}{dr:Bool}{f:FuncId}{args args':List V}{res:V}{h:Hz}{n:Nat}{K:V->Hz->Prop}{KW:Nat->V->Hz->Prop}(S:au P f args' res)(hs:T.dG (fun _=>True) h.aj (V.aS args') (V.aS args))(hh:res.aF.hard=true)(hr:res.free=true)(hK:K res h):ah P dr none f args h n K KW :=
 ⟨.inl (uT.lend S hs hh (fun _ e=>by cases e) ⟨res,h,rfl,rfl,fun _=>⟨rfl,V.kL res hr⟩,hK⟩)⟩
theorem wJ(l:List Elem):T.cZ (l.map gV)=true:=by
 rw[eG]; intro t ht; obtain⟨x,_,rfl⟩:=List.mem_map.1 ht; rfl
theorem dL.of_eq{a b:List T}(h:a=b):dL a b:=by subst h; exact .refl _
theorem ah.ada{P:Program}{dr b:Bool}{f:FuncId}{args args':List V}{res:V}{h:Hz}{n:Nat}{K:V->Hz->Prop}{KW:Nat->V->Hz->Prop}(S:b=true->au P f args' res)(hs:b=true->T.dG (fun _=>True) h.aj (V.aS args') (V.aS args))(hh:res.aF.hard=true)(hr:res.free=true)(hK:K res h):ah P dr (some b) f args h n K KW :=
 ⟨.inl (.inl ⟨res,fun e=>uT.lend (S e) (hs e) hh (fun _ e=>by cases e) ⟨rfl,rfl⟩,hr,hK⟩)⟩
abbrev iW(l:List Elem):OV:=.row 54 3 (.elems l) []
theorem aaQ{h:Hz}{j:Nat}{l:List Elem}{Z:Nat->Prop}(hz:Z j)(q:h.get j=some (iW l)):T.sub Z h.aj (V.row 3 false (.elems l)).aF (V.own j).aF:=by
 show T.sub Z h.aj (.sl 3 false (l.map gV)) (.own j)
 simp only[T.sub]
 refine⟨trivial,hz,wJ l,by decide,54,?_⟩
 have:=aO q; simpa [OV.ay,Rw.aS,V.aS] using this
theorem aG.abh{h:Hz}{j:Nat}{l:List Elem}(q:h.get j=some (iW l)):aG (.row 3 false (.elems l)) (.own j) h:=⟨aaQ trivial q⟩
abbrev h1(l:List Elem):Hz:=[(0,some (iW l))]
def qV(l:List Elem):Nat->List Elem
 |0=>[]
 |n+1=>if n=0\/l.getD n default≠l.getD (n-1) default then qV l n++[l.getD n default] else qV l n
theorem EK(l:List Elem): ∀ n,(qV l n).length<=n:=by
 intro n
 induction n with
 |zero=>exact Nat.le_refl _
 |succ n ih =>
  simp only[qV]; split
  ·simp; omega
  ·omega
theorem YM{l:List Elem}{x:Elem}: ∀ {n},x∈qV l n->n<=l.length->x∈l:=by
 intro n
 induction n with
 |zero=>intro h; cases h
 |succ n ih =>
  intro h hn
  simp only[qV] at h
  split at h
  ·rcases List.mem_append.1 h with h|h
   ·exact ih h (by omega)
   ·rw[List.mem_singleton] at h; subst h
    simp[show n<l.length by omega]
  ·exact ih h (by omega)
abbrev zeroV:V:=.agg [.int 0,.row 0 true .nil]
def mid(l:List Elem)(j:Nat):List Elem:=qV l j++l.drop (qV l j).length
theorem YL{l:List Elem}{j:Nat}(h:j<=l.length):(mid l j).length=l.length:=by
 have:=EK l j
 simp[mid]; omega
theorem QX{l:List Elem}{j i:Nat}(h:(qV l j).length<=i):(mid l j).getD i default=l.getD i default:=by
 unfold mid
 rw[List.getD_eq_getElem?_getD,List.getElem?_append_right h,List.getElem?_drop,List.getD_eq_getElem?_getD]
 congr 2; omega
theorem YN{l:List Elem}{j:Nat}(hj:j<l.length)(h:j=0\/l.getD j default≠l.getD (j-1) default):(mid l j).set (qV l j).length (l.getD j default)=mid l (j+1):=by
 have hl:=EK l j
 have e:qV l (j+1)=qV l j++[l.getD j default]:=by simp only[qV]; rw[if_pos h]
 unfold mid
 rw[e,List.set_append_right _ _ (Nat.le_refl _),Nat.sub_self,gQ default (show(qV l j).length<l.length by omega)]
 simp
theorem MH{l:List Elem}{j:Nat}(h0:j≠0)(h:l.getD j default=l.getD (j-1) default):qV l (j+1)=qV l j:=by
 simp only[qV]; rw[if_neg]; intro q; rcases q with q|q
 ·exact h0 q
 ·exact q h
theorem FB{l:List Elem}{k:Nat}(hk:k<=l.length)(h: ∀ i,0<i->i<k->l.getD i default≠l.getD (i-1) default):qV l k=l.take k:=by
 induction k with
 |zero=>rfl
 |succ k ih =>
  simp only[qV]
  rw[if_pos,ih (by omega) fun i h1 h2=>h i h1 (by omega),List.take_add_one]
  ·simp[show k<l.length by omega]
  ·by_cases h0:k=0
   ·exact .inl h0
   ·exact .inr (h k (by omega) (by omega))
theorem MI(l:List Elem)(m nx:Nat):(OV.row 54 3 (.elems l) (List.replicate m zeroV)).good nx=true:=by
 have h1:CY 3 (List.replicate m zeroV)=true:=by
  induction m with
  |zero=>rfl
  |succ m ih=>simp only[List.replicate_succ,CY,ih,Bool.and_true]; rfl
 have h2:T.LZ nx (V.aS (List.replicate m zeroV))=true:=by
  clear h1
  induction m with
  |zero=>rfl
  |succ m ih=>simp only[List.replicate_succ,V.aS,T.LZ,ih,Bool.and_true]; rfl
 simp only[OV.good,h1,h2]; rfl
theorem JV(l:List Elem)(m:Nat):(OV.row 54 3 (.elems l) (List.replicate m zeroV)).EL=true:=by
 simp only[OV.EL]
 induction m with
 |zero=>rfl
 |succ m ih=>simp only[List.replicate_succ,V.cZ,ih,Bool.and_true]; rfl
def o9(l:List Elem):List Elem:=qV l l.length
theorem S.Ub:au Tryz.prog 140 [.raw (.lit (.int .u64 0))] (.int 0):=by
 refine au.of Bd.qW (by simp) rfl rfl ?_
 conv=>whnf
 refine Fork.mk (fun q=>absurd (q.symm.trans ((rfl:decide ((4294967296:Int)<=0)=false))).symm Bool.false_ne_true) (fun _=>?_)
 conv=>whnf
 refine Fork.mk (fun q=>absurd (q.symm.trans ((rfl:decide ((65536:Int)<=0)=false))).symm Bool.false_ne_true) (fun _=>?_)
 conv=>whnf
 refine Fork.mk (fun q=>absurd (q.symm.trans ((rfl:decide ((256:Int)<=0)=false))).symm Bool.false_ne_true) (fun _=>?_)
 conv=>whnf
 refine .mk (by omega) ?_
 conv=>whnf
 repeat(refine VC.mk (by constructor<;>decide) ?_; conv=>whnf)
 exact aG.int (by decide)
theorem S.bitsLen:au Tryz.prog 110 [.raw (.lit (.int .u64 0))] (.int 0):=by
 refine au.of Bd.uK (by simp) rfl rfl ?_
 conv=>whnf
 refine Fork.mk (fun q=>absurd (q.symm.trans ((rfl:false=false))).symm Bool.false_ne_true) (fun _=>?_)
 conv=>whnf
 refine ah.pure (S.Ub) rfl ?_
 conv=>whnf
 exact aG.int rfl
theorem S.PU(n:Nat):aT Tryz.prog 131 (V.aS [.own 0,.int 0,.int 0,.fn 45 []]) (h1 []).aj n (fun t hp=>t= .fU []/\hp=(h1 []).aj):=by
 refine o7.of (nx:=1) (h0:=h1 []) Bd.dh (by simp) ⟨_,_,rfl,rfl⟩ rfl rfl ?_
 conv=>whnf
 refine .mk (by simp only[okI] at *; first|omega|(simp_all; done)|(simp_all; omega)) ?_
 conv=>whnf
 refine aP.times 1 rfl ?_
 conv=>whnf
 refine Fork.mk (fun q=>absurd (q.symm.trans ((rfl:decide ((0:Int)+1<0)=false))).symm Bool.false_ne_true) (fun _=>?_)
 conv=>whnf
 exact mO.one (c:=0) (j:=0) (o:=iW []) (t:=.fU []) rfl rfl rfl (fun _=>rfl) (.inl rfl) trivial (.eq rfl) ⟨rfl,rfl⟩
theorem S.aej(n:Nat):aT Tryz.prog 109 (V.aS [.own 0,.int 0,.int 0,.int 0,.fn 45 []]) (h1 []).aj n (fun t hp=>t= .fU []/\hp=(h1 []).aj):=by
 refine o7.of (nx:=1) (h0:=h1 []) Bd.dP (by simp) ⟨_,_,rfl,rfl⟩ rfl rfl ?_
 conv=>whnf
 refine aP.times 1 rfl ?_
 conv=>whnf
 refine .mk (by simp only[okI] at *; first|omega|(simp_all; done)|(simp_all; omega)) ?_
 conv=>whnf
 refine Fork.mk (fun _=>?_) (fun q=>absurd (q.symm.trans ((rfl:decide ((0:Int)-0<=12)=true))) Bool.false_ne_true)
 conv=>whnf
 refine ah.heap (S.PU _) (fun t hp ⟨e1,e2⟩=>⟨.fU [],h1 [],e1,e2,?_⟩)
 conv=>whnf
 exact mO.one (c:=0) (j:=0) (o:=iW []) (t:=.fU []) rfl rfl rfl (fun _=>rfl) (.inl rfl) trivial (.eq rfl) ⟨rfl,rfl⟩
theorem S.Zm(n:Nat):aT Tryz.prog 78 (V.aS [.own 0,.fn 45 []]) (h1 []).aj n (fun t hp=>t= .fU []/\hp=(h1 []).aj):=by
 refine o7.of (nx:=1) (h0:=h1 []) Bd.bC (by simp) ⟨_,_,rfl,rfl⟩ rfl rfl ?_
 conv=>whnf
 refine .mk (by simp only[List.length_nil]; omega) ?_
 conv=>whnf
 refine ah.pure (S.bitsLen) rfl ?_
 conv=>whnf
 refine ah.heap (S.aej _) (fun t hp ⟨e1,e2⟩=>⟨.fU [],h1 [],e1,e2,?_⟩)
 conv=>whnf
 exact mO.one (c:=0) (j:=0) (o:=iW []) (t:=.fU []) rfl rfl rfl (fun _=>rfl) (.inl rfl) trivial (.eq rfl) ⟨rfl,rfl⟩
theorem Uc: ∀ a b:List Int,cmpL b a= -cmpL a b:=by
 intro a
 induction a with
 |nil=>intro b; cases b<;>rfl
 |cons x a ih =>
  intro b
  cases b with
  |nil=>rfl
  |cons y b =>
   simp only[cmpL]
   by_cases h1:x<y
   ·have h2: ¬ y<x:=by omega
    simp[h1,h2]
   ·by_cases h2:y<x
    ·simp[h1,h2]
    ·simp[h1,h2,ih]
theorem pK(a b:Elem):gW b a= -gW a b:=by
 simp only[gW]
 by_cases h1:a.value<b.value
 ·have h2: ¬ b.value<a.value:=by omega
  simp[h1,h2]
 ·by_cases h2:b.value<a.value
  ·simp[h1,h2]
  ·simp[h1,h2,Uc a.counts b.counts]
theorem PV: ∀ {a b c:List Int},cmpL a b<0->cmpL b c<0->cmpL a c<0:=by
 intro a
 induction a with
 |nil =>
  intro b c h1 h2
  cases b with
  |nil=>simp[cmpL] at h1
  |cons y b=>cases c with
   |nil=>simp[cmpL] at h2
   |cons z c=>simp[cmpL]
 |cons x a ih =>
  intro b c h1 h2
  cases b with
  |nil=>simp[cmpL] at h1
  |cons y b=>cases c with
   |nil=>simp[cmpL] at h2
   |cons z c =>
    simp only[cmpL] at h1 h2 ⊢
    by_cases a1:x<y
    ·by_cases a2:y<z
     ·rw[if_pos (by omega)]; omega
     ·by_cases a3:z<y
      ·simp[a2,a3] at h2
      ·rw[if_pos (by omega)]; omega
    ·by_cases a4:y<x
     ·simp[a1,a4] at h1
     ·simp only[a1,a4,if_false] at h1
      have e:x=y:=by omega
      subst e
      by_cases a2:x<z
      ·simp[a2]
      ·by_cases a3:z<x
       ·simp[a2,a3] at h2
       ·simp only[a2,a3,if_false] at h2 ⊢
        exact ih h1 h2
theorem wP{a b c:Elem}(h1:gW a b<0)(h2:gW b c<0):gW a c<0:=by
 simp only[gW] at h1 h2 ⊢
 by_cases a1:a.value<b.value
 ·by_cases a2:b.value<c.value
  ·rw[if_pos (by omega)]; omega
  ·by_cases a3:c.value<b.value
   ·simp[a2,a3] at h2
   ·rw[if_pos (by omega)]; omega
 ·by_cases a4:b.value<a.value
  ·simp[a1,a4] at h1
  ·simp only[a1,a4,if_false] at h1
   by_cases a2:b.value<c.value
   ·rw[if_pos (by omega)]; omega
   ·by_cases a3:c.value<b.value
    ·simp[a2,a3] at h2
    ·simp only[a2,a3,if_false] at h2
     rw[if_neg (by omega),if_neg (by omega)]
     exact PV h1 h2
theorem zF{a b c:Elem}(h1: ¬ gW b a<0)(h2: ¬ gW c b<0): ¬ gW c a<0:=by
 rw[pK a b] at h1
 rw[pK b c] at h2
 rw[pK a c]
 by_cases e1:gW a b=0
 ·rw[iP] at e1; subst e1; exact h2
 ·by_cases e2:gW b c=0
  ·rw[iP] at e2; subst e2; exact h1
  ·have:=wP (a:=a) (b:=b) (c:=c) (by omega) (by omega)
   omega
def BA(l:List Elem):Prop:=l.Pairwise fun a b=> ¬ gW b a<0
def PW(e:Elem):List Elem->List Elem
 |[]=>[e]
 |x::r=>if gW x e<0 then x::PW e r else e::x::r
def oD(l:List Elem):List Elem:=l.foldr PW []
theorem Jd(e:Elem): ∀ l,(PW e l).Perm (e::l):=by
 intro l
 induction l with
 |nil=>exact .refl _
 |cons x r ih =>
  simp only[PW]; split
  ·exact((ih.cons x).trans (.swap e x r))
  ·exact .refl _
theorem sS: ∀ l,(oD l).Perm l:=by
 intro l
 induction l with
 |nil=>exact .refl _
 |cons x r ih=>exact(Jd x _).trans (ih.cons x)
theorem WV(e:Elem): ∀ l,BA l->BA (PW e l):=by
 intro l
 induction l with
 |nil=>intro _; simp[BA,PW]
 |cons x r ih =>
  intro h
  have h':=h
  simp only[BA,List.pairwise_cons] at h
  simp only[PW]
  split
  ·rename_i hlt
   simp only[BA,List.pairwise_cons]
   refine⟨fun y hy=>?_,ih h.2⟩
   rcases List.mem_cons.1 ((Jd e r).mem_iff.1 hy) with rfl|hy
   ·rw[pK]; omega
   ·exact h.1 y hy
  ·rename_i hge
   simp only[BA,List.pairwise_cons]
   refine⟨fun y hy=>?_,h⟩
   rcases List.mem_cons.1 hy with rfl|hy
   ·exact hge
   ·exact zF hge (h.1 y hy)
theorem yY: ∀ l,BA (oD l):=by
 intro l
 induction l with
 |nil=>simp[BA,oD]
 |cons x r ih=>exact WV x _ ih
theorem PX: ∀ {a b:List Elem},a.Perm b->BA a->BA b->a=b:=by
 intro a
 induction a with
 |nil=>intro b hp _ _; exact hp.nil_eq
 |cons x a ih =>
  intro b hp ha hb
  cases b with
  |nil=>exact absurd hp.symm (by simp)
  |cons y b =>
   have h1:=ha; have h2:=hb
   simp only[BA,List.pairwise_cons] at h1 h2
   have hxy:x=y:=by
    by_cases e:x=y
    ·exact e
    ·have hx:x∈b:=by
      rcases List.mem_cons.1 (hp.mem_iff.1 (by simp:x∈x::a)) with h|h
      ·exact absurd h e
      ·exact h
     have hy:y∈a:=by
      rcases List.mem_cons.1 (hp.mem_iff.2 (by simp:y∈y::b)) with h|h
      ·exact absurd h.symm e
      ·exact h
     have g1:=h1.1 y hy
     have g2:=h2.1 x hx
     rw[pK] at g1
     have:gW x y=0:=by omega
     exact iP.1 this
   subst hxy
   rw[ih (List.Perm.cons_inv hp) h1.2 h2.2]
def zG:T->Elem
 | .agg [.lit (.int _ v),.sl _ _ l]=>⟨v,l.map uM⟩
 |_=>default
theorem ES(e:Elem):zG (gV e)=e:=by
 obtain⟨v,c⟩:=e
 simp only[gV,zG]
 congr 1
 rw[List.map_map]
 conv=>rhs; rw[<- List.map_id c]
 exact List.map_congr_left fun x _=>rfl
theorem S.aek{x y:Elem}(hx:x.counts.length<2^40)(hy:y.counts.length<2^40):sU Tryz.prog 45 [gV x,gV y] (.int (gW x y)):=S.fQ x y hx hy
theorem WW(l:List Elem):(h1 l).aj=upd no 0 (some ⟨54,3,l.map gV⟩):=by
 show Hz.aj ((0,some (iW l))::[])=_
 rw[bn]
 simp[iW,OV.ay,Rw.aS,V.aS]; rfl
theorem abz: ∀ w,(isAgg 54).run Tryz.prog w= .ok true w:=fun w=>pO (k:=3) (by kernel_rfl)
theorem adb: ∀ w,(Go.sizeOf 54).run Tryz.prog w= .ok 2 w:=fun w=>fO (k:=3) (by kernel_rfl)
theorem S.SortFunc(l:List Elem)(n:Nat)(hl:l.length<2^30)(hs:eU l) :
  aT Tryz.prog 78 (V.aS [.own 0,.fn 45 []]) (h1 l).aj n (fun t hp=>t= .fU []/\hp=(h1 (oD l)).aj):=by
 by_cases hne:l=[]
 ·subst hne
  exact S.Zm n
 ·have hx: ∀ t∈l.map gV,∃ e∈l,t=gV e:=fun t ht=>by obtain⟨e,he,rfl⟩:=List.mem_map.1 ht; exact⟨e,he,rfl⟩
  have H:=aT.sort (n:=n) Tryz.laySort 2 (by decide) abz adb (by exact Bd.bC.cl) (g:=45) (by decide) (by exact Bd.fQ.cl) (l:=l.map gV) (by simpa using hne)
   (fun t ht=>by obtain⟨e,_,rfl⟩:=hx t ht; rfl) (wJ l) (by simp; omega) (fun x y=>gW (zG x) (zG y))
   (fun t ht=>by rw[iP.2 rfl]; decide)
   (fun x _ y _ z _ h1 h2=>wP h1 h2)
   (fun x _ y _ z _ h1 h2=>zF h2 h1)
   (fun x hx1 y hy1=>by
    obtain⟨a,ha,rfl⟩:=hx x hx1
    obtain⟨b,hb,rfl⟩:=hx y hy1
    simp only[ES]; exact S.aek (hs a ha) (hs b hb))
   (by decide) ⟨(oD l).map gV,(sS l).map gV,by
    rw[List.pairwise_map]; simp only[ES]; exact yY l⟩ (h:=(h1 l).aj) (i:=0) (ty:=54) (by rw[WW]; rfl)
  refine aT.mono H ?_
  rintro t hp ⟨rfl,l',hp',hpw,rfl⟩
  refine⟨rfl,?_⟩
  have hl':l'=(l'.map zG).map gV:=by
   rw[List.map_map]
   conv=>lhs; rw[<- List.map_id l']
   refine List.map_congr_left fun t ht=>?_
   obtain⟨e,_,rfl⟩:=hx t (hp'.mem_iff.1 ht)
   simp[ES]
  have hperm:(l'.map zG).Perm l:=by
   have:=hp'.map zG
   rw[List.map_map] at this
   have e:l.map (zG ∘ gV)=l:=by
    conv=>rhs; rw[<- List.map_id l]
    exact List.map_congr_left fun e _=>ES e
   rw[e] at this; exact this
  have hsrt:BA (l'.map zG):=by
   unfold BA; rw[List.pairwise_map]; exact hpw
  have heq:l'.map zG=oD l:=PX (hperm.trans (sS l).symm) hsrt (yY l)
  rw[WW,WW]
  rw[hl',heq]
  funext j
  simp only[upd]; split<;>rfl
def qI(l:List Elem):List Elem:=o9 (oD l)
theorem Dl(l:List Elem):(oD l).length=l.length:=(sS l).length_eq
theorem MJ{l:List Elem}(h:eU l):eU (oD l):=fun e he=>h e ((sS l).mem_iff.1 he)
theorem aG.abj{h:Hz}{j m:Nat}{l:List Elem}(q:h.get j=some (.row 54 3 (.elems l) (List.replicate m zeroV))):aG (.row 3 false (.elems l)) (.nO j 0 l.length) h:=⟨by
 show T.sub (fun _=>True) h.aj (.sl 3 false (l.map gV)) (.nO j 0 l.length)
 simp only[T.sub]
 refine⟨trivial,trivial,wJ l,by decide,54,l.map gV++V.aS (List.replicate m zeroV),?_,by simp,by simp⟩
 exact aO q⟩
def SS(l:List Elem):Prop:=l.Pairwise fun a b=>gW a b<0
theorem IK: ∀ {a b:List Elem},SS a->SS b->(∀ x,x∈a↔x∈b)->a=b:=by
 intro a
 induction a with
 |nil =>
  intro b _ _ h
  cases b with
  |nil=>rfl
  |cons y b=>exact absurd ((h y).2 (by simp)) (by simp)
 |cons x a ih =>
  intro b ha hb h
  cases b with
  |nil=>exact absurd ((h x).1 (by simp)) (by simp)
  |cons y b =>
   simp only[SS,List.pairwise_cons] at ha hb
   have hself: ∀ z:Elem,¬ gW z z<0:=fun z=>by rw[iP.2 rfl]; decide
   have hxy:x=y:=by
    rcases List.mem_cons.1 ((h x).1 (by simp)) with e|hx
    ·exact e
    ·rcases List.mem_cons.1 ((h y).2 (by simp)) with e|hy
     ·exact e.symm
     ·exact absurd (wP (ha.1 y hy) (hb.1 x hx)) (hself x)
   subst hxy
   rw[ih ha.2 hb.2 fun z=>?_]
   constructor
   ·intro hz
    rcases List.mem_cons.1 ((h z).1 (by simp[hz])) with e|h'
    ·subst e; exact absurd (ha.1 z hz) (hself z)
    ·exact h'
   ·intro hz
    rcases List.mem_cons.1 ((h z).2 (by simp[hz])) with e|h'
    ·subst e; exact absurd (hb.1 z hz) (hself z)
    ·exact h'
theorem Je{l:List Elem}(hs:BA l): ∀ n,n<=l.length->SS (qV l n)/\(∀ x,x∈qV l n↔x∈l.take n)/\(∀ x∈qV l n,n<l.length-> ¬ gW (l.getD n default) x<0):=by
 intro n
 induction n with
 |zero=>intro _; exact⟨by simp[SS,qV],by simp[qV],by simp[qV]⟩
 |succ n ih =>
  intro hn
  obtain⟨h1,h2,h3⟩:=ih (by omega)
  have hnl:n<l.length:=by omega
  have hmono: ∀ i j,i<=j->j<l.length-> ¬ gW (l.getD j default) (l.getD i default)<0:=by
   intro i j hij hj
   by_cases e:i=j
   ·subst e; rw[iP.2 rfl]; decide
   ·have:=List.pairwise_iff_getElem.1 hs i j (by omega) hj (by omega)
    simpa [hj,show i<l.length by omega] using this
  have htake: ∀ x,x∈l.take n-> ∃ i,i<n/\l.getD i default=x:=by
   intro x hx
   rw[List.mem_take_iff_getElem] at hx
   obtain⟨i,hi,e⟩:=hx
   exact⟨i,by omega,by rw[<- e]; simp[show i<l.length by omega]⟩
  have hlast:l.take (n+1)=l.take n++[l.getD n default]:=by
   rw[List.take_add_one]; simp[hnl]
  simp only[qV]
  split
  ·rename_i hc
   refine⟨?_,?_,?_⟩
   ·simp only[SS,List.pairwise_append]
    refine⟨h1,by simp,fun x hx y hy=>?_⟩
    rw[List.mem_singleton] at hy; subst hy
    have hge:=h3 x hx hnl
    rw[pK] at hge
    have hne:gW x (l.getD n default)≠0:=by
     intro e
     rw[iP] at e
     rcases hc with hc|hc
     ·subst hc; simp[qV] at hx
     ·obtain⟨i,hi,hix⟩:=htake x ((h2 x).1 hx)
      have g1:=hmono i (n-1) (by omega) (by omega)
      have g2:=hmono (n-1) n (by omega) hnl
      rw[hix,e] at g1
      rw[pK] at g1
      have:gW (l.getD n default) (l.getD (n-1) default)=0:=by omega
      exact hc (iP.1 this)
    omega
   ·intro x
    rw[hlast]
    simp only[List.mem_append,h2]
   ·intro x hx hn1
    rcases List.mem_append.1 hx with hx|hx
    ·obtain⟨i,hi,hix⟩:=htake x ((h2 x).1 hx)
     rw[<- hix]; exact hmono i (n+1) (by omega) hn1
    ·rw[List.mem_singleton] at hx; subst hx
     exact hmono n (n+1) (by omega) hn1
  ·rename_i hc
   have hc':n≠0/\l.getD n default=l.getD (n-1) default:=by
    constructor
    ·intro e; exact hc (.inl e)
    ·by_cases e:l.getD n default=l.getD (n-1) default
     ·exact e
     ·exact absurd (.inr e) hc
   refine⟨h1,fun x=>?_,fun x hx hn1=>?_⟩
   ·rw[hlast,h2]
    simp only[List.mem_append,List.mem_singleton]
    constructor
    ·exact .inl
    ·rintro(h|h)
     ·exact h
     ·rw[h,hc'.2]
      rw[List.mem_take_iff_getElem]
      exact⟨n-1,by omega,by simp[show n-1<l.length by omega]⟩
   ·obtain⟨i,hi,hix⟩:=htake x ((h2 x).1 hx)
    rw[<- hix]; exact hmono i (n+1) (by omega) hn1
theorem qJ(l:List Elem):SS (qI l):=(Je (yY l) _ (Nat.le_refl _)).1
theorem rO(l:List Elem)(x:Elem):x∈qI l↔x∈l:=by
 unfold qI o9
 rw[(Je (yY l) _ (Nat.le_refl _)).2.1,List.take_length]
 exact(sS l).mem_iff
end Go.Proofs.YtajmbgljnaljiaaGreatDoor
